/- Loads, addresses, parts, aggregates, new variables. -/
import Derived.Test.YtnlllfokomenfaaGreatDoorE6
namespace Go.Proofs.Abs
open Go

section
variable {P : Program} {G : Glob} {call : Caller} {w : World} {I : Nat → Prop} {α : Nat → Option Nat} {H : Heap} {rid nx : Nat}

theorem implV_load {t : TypeId} {x : AV} {x' : Value} {e : Eff} (c : Ctx P G call w I α H rid nx) (hx : Rep w I α x x') (h : loadA P t x G = some e) :
    ImplV P G call w I α H rid nx (Instr.loadAt t x') e := by
  unfold loadA at h
  split at h
  · rename_i id off
    simp only [Option.some.injEq] at h; subst h
    cases hx with
    | ptr _ _ b hb =>
      refine impl_read c fun blk b' e' hg hα hB hk => ?_
      rw [hb] at hα; cases hα
      split at hk
      · simp only [Option.map_eq_some_iff] at hk
        obtain ⟨v, hv, rfl⟩ := hk
        obtain ⟨v', h1, h2⟩ := hB.row.part (P := P) hv
        rw [Nat.zero_add] at h1
        exact impl_val c (by simp [Instr.loadAt, Instr.sureAddr, h1]) h2
      · simp at hk
  · simp only [Option.map_eq_some_iff] at h
    obtain ⟨v, hv, rfl⟩ := h
    obtain ⟨b, base, rfl, hI, hr⟩ := hx.fptr_row
    obtain ⟨v', h1, h2⟩ := hr.part (P := P) hv
    exact impl_val c (by simp [Instr.loadAt, Instr.sureAddr, h1]) h2
  · rename_i g off
    split at h
    · rename_i l hl
      simp only [Option.map_eq_some_iff] at h
      obtain ⟨v, hv, rfl⟩ := h
      cases hx
      have hr : Row w I α g 0 l := fun j x hx => by
        obtain ⟨y, h1, h2⟩ := (c.rel.glob g l hl).2 j x hx
        exact ⟨y, by rw [Nat.zero_add]; exact h1, h2⟩
      obtain ⟨v', h1, h2⟩ := hr.part (P := P) hv
      rw [Nat.zero_add] at h1
      exact impl_val c (by simp [Instr.loadAt, Instr.sureAddr, h1]) h2
    · simp at h
  · simp at h

theorem fieldOf_struct {t : TypeId} {f : Nat} {fd : Field} (h : fieldOf P t f = some fd) : ∃ fs, P.underlying t = some (.struct fs) ∧ fs[f]? = some fd := by
  unfold fieldOf at h
  split at h
  · rename_i fs ht; exact ⟨fs, ht, h⟩
  · simp at h

theorem run_fieldAt {t : TypeId} {x : AV} {x' : Value} {f : Nat} {v : AV} (hx : Rep w I α x x') (h : fieldAddrA P t x f = some v) :
    ∃ v', (Instr.fieldAt t x' f).run P w = .ok v' w ∧ Rep w I α v v' := by
  unfold fieldAddrA at h
  split at h
  · rename_i fd hfd
    obtain ⟨fs, ht, hf⟩ := fieldOf_struct hfd
    split at h
    · rename_i n hn
      have hsz := run_sizeOf' (w := w) hn
      have main : ∀ b o, x' = .pointer (some ⟨b, o, none⟩) → (Instr.fieldAt t x' f).run P w = .ok (.pointer (some ⟨b, o + fd.offset, none⟩)) w := by
        rintro b o rfl
        simp [Instr.fieldAt, run_underlying' ht, hf, Instr.sureAddr, fieldPlace, hsz, add_lit]
      split at h
      · simp only [Option.some.injEq] at h; subst h
        cases hx with
        | ptr _ _ b hb => exact ⟨_, main b _ rfl, .ptr _ _ b hb⟩
      · rename_i cs off
        simp only [Option.some.injEq] at h; subst h
        cases hx with
        | fptr _ _ b base g hI hg hr => exact ⟨_, main b _ rfl, by rw [Nat.add_assoc]; exact .fptr cs _ b base g hI hg hr⟩
      · rename_i g off
        simp only [Option.some.injEq] at h; subst h
        cases hx
        exact ⟨_, main g _ rfl, .gptr _ _⟩
      · simp at h
    · simp at h
  · simp at h

theorem run_indexAt {t : TypeId} {x i : AV} {x' i' : Value} {v : AV} (hx : Rep w I α x x') (hi : Rep w I α i i') (h : indexAddrA P t x i = some v) :
    ∃ v', (Instr.indexAt t x' i').run P w = .ok v' w ∧ Rep w I α v v' := by
  unfold indexAddrA at h
  cases hn : natOf i with
  | none => simp [hn] at h
  | some n =>
    simp only [hn, Option.bind_eq_bind, Option.bind_some] at h
    have hi' : ∃ k, i' = .int k n := by
      unfold natOf at hn
      split at hn
      · simp at hn; subst hn; cases hi; exact ⟨_, rfl⟩
      · simp at hn
    obtain ⟨k, rfl⟩ := hi'
    split at h
    · rename_i m e ht
      cases hsz : sizeA P e with
      | none => simp [hsz] at h
      | some sz =>
        simp only [hsz, Option.bind_some] at h
        split at h
        · rename_i hlt
          have hlt : n < m := by simpa using hlt
          have main : ∀ b o, x' = .pointer (some ⟨b, o, none⟩) → (Instr.indexAt t x' (.int k n)).run P w = .ok (.pointer (some ⟨b, o + n * sz, none⟩)) w := by
            rintro b o rfl
            have h1 : (0 : Int) ≤ n ∧ (n : Int) < m := by omega
            simp [Instr.indexAt, asIntOf, run_underlying' ht, Instr.sureAddr, h1, run_sizeOf' hsz, add_lit]
            intro hh; omega
          split at h
          · simp only [Option.some.injEq] at h; subst h
            cases hx with
            | ptr _ _ b hb => exact ⟨_, main b _ rfl, .ptr _ _ b hb⟩
          · rename_i cs off
            simp only [Option.some.injEq] at h; subst h
            cases hx with
            | fptr _ _ b base g hI hg hr => exact ⟨_, main b _ rfl, by rw [Nat.add_assoc]; exact .fptr cs _ b base g hI hg hr⟩
          · rename_i g off
            simp only [Option.some.injEq] at h; subst h
            cases hx
            exact ⟨_, main g _ rfl, .gptr _ _⟩
          · simp at h
        · simp at h
    · rename_i e ht
      cases hsz : sizeA P e with
      | none => simp [hsz] at h
      | some sz =>
        simp only [hsz, Option.bind_some] at h
        have main : ∀ b o len cap, x' = .slice (some ⟨b, o, none⟩) len cap → n < len → (Instr.indexAt t x' (.int k n)).run P w = .ok (.pointer (some ⟨b, o + n * sz, none⟩)) w := by
          rintro b o len cap rfl hlt
          have h1 : (0 : Int) ≤ n ∧ (n : Int) < len := by omega
          simp [Instr.indexAt, asIntOf, run_underlying' ht, h1, run_sizeOf' hsz, add_lit]
          intro hh; omega
        split at h
        · rename_i es
          split at h
          · rename_i el hel
            rw [getN_eq] at hel
            split at h
            · rename_i hc
              have hc : el.cells.length = sz := by rw [lenN_eq] at hc; exact beq_iff.1 hc
              simp only [Option.some.injEq] at h; subst h
              obtain ⟨b, base, len, cap, rfl, hlen, hI, hrow⟩ := hx.fsl_elem hel hc
              have hlt : n < len := by
                rw [hlen]
                rcases Nat.lt_or_ge n es.length with h' | h'
                · exact h'
                · rw [List.getElem?_eq_none h'] at hel; cases hel
              refine ⟨_, main b base len cap rfl hlt, ?_⟩
              have : ∀ j, j < el.cells.length → ∃ y, w.cell? ⟨b, base + n * sz + j, none⟩ = some y := fun j hj => by
                obtain ⟨y, h1, _⟩ := hrow j el.cells[j] (by simp [hj])
                exact ⟨y, h1⟩
              have hg : ∀ j c, el.cells[j]? = some c → w.cell? ⟨b, base + n * sz + j, none⟩ = some ((w.cell? ⟨b, base + n * sz + j, none⟩).getD undef) := fun j c hj => by
                obtain ⟨y, h1, _⟩ := hrow j c hj
                rw [h1]; rfl
              have hr : ∀ j c, el.cells[j]? = some c → Rep w I α c ((w.cell? ⟨b, base + n * sz + j, none⟩).getD undef) := fun j c hj => by
                obtain ⟨y, h1, h2⟩ := hrow j c hj
                rw [h1]; exact h2
              exact .fptr el.cells 0 b (base + n * sz) (fun j => (w.cell? ⟨b, base + n * sz + j, none⟩).getD undef) hI hg hr
            · simp at h
          · simp at h
        · split at h
          · rename_i hc
            simp only [Bool.and_eq_true] at hc
            have hlt := hc.1
            simp only [Option.some.injEq] at h; subst h
            cases hx with
            | rsl _ _ _ _ _ cap b hb hcap ho => exact ⟨_, main b _ _ _ rfl (by simpa using hlt), .ptr _ _ b hb⟩
          · simp at h
        · simp at h
    · simp at h

theorem run_indexA {t : TypeId} {x i : AV} {x' i' : Value} {v : AV} (hx : Rep w I α x x') (hi : Rep w I α i i') (h : indexA P t x i = some v) :
    ∃ v', (Instr.index t x' i').run P w = .ok v' w ∧ Rep w I α v v' := by
  unfold indexA at h
  cases hn : natOf i with
  | none => simp [hn] at h
  | some n =>
    simp only [hn, Option.bind_eq_bind, Option.bind_some] at h
    have hi' : ∃ k, i' = .int k n := by
      unfold natOf at hn
      split at hn
      · simp at hn; subst hn; cases hi; exact ⟨_, rfl⟩
      · simp at hn
    obtain ⟨k, rfl⟩ := hi'
    split at h
    · rename_i m e cs ht
      split at h
      · rename_i hlt
        have hlt : n < m := by simpa using hlt
        cases hsz : sizeA P e with
        | none => simp [hsz] at h
        | some sz =>
          simp only [hsz, Option.bind_some] at h
          obtain ⟨cs', rfl, hcs⟩ := Rep.agg_iff.1 hx
          obtain ⟨v', h1, h2⟩ := hcs.part (P := P) h
          have hb : (0 : Int) ≤ n ∧ (n : Int) < m := by omega
          exact ⟨v', by simp [Instr.index, asIntOf, run_underlying' ht, run_sizeOf' hsz]; rw [if_pos hlt]; simpa using h1, h2⟩
      · simp at h
    · rename_i s ht
      simp only [Option.map_eq_some_iff] at h
      obtain ⟨b, hb, rfl⟩ := h
      rw [getN_eq] at hb
      cases hx with
      | str _ bs hbs =>
        have : bs[n]? = some b := by
          have hlt : n < bs.size := by
            have : bs.size = s.length := by rw [← hbs]; exact Array.length_toList.symm
            rcases Nat.lt_or_ge n s.length with h' | h'
            · omega
            · rw [List.getElem?_eq_none h'] at hb; cases hb
          rw [ByteArray.getElem?_lt' bs n hlt]
          congr 1
          rw [← hbs] at hb
          simp only [Array.getElem?_toList] at hb
          have h2 : bs.data[n]? = some bs[n] := by
            rw [Array.getElem?_eq_getElem (show n < bs.data.size from hlt)]; rfl
          rw [h2] at hb; cases hb; rfl
        exact ⟨_, by simp [Instr.index, asIntOf, run_underlying' ht, this], .int _ _⟩
    · simp at h

theorem run_field {t : TypeId} {cs : List AV} {x' : Value} {f : Nat} {fd : Field} {v : AV} (hx : Rep w I α (.agg cs) x') (hf : fieldOf P t f = some fd) (h : partA P fd.type cs fd.offset = some v) :
    ∃ v', (Instr.field t x' f).run P w = .ok v' w ∧ Rep w I α v v' := by
  obtain ⟨fs, ht, hf⟩ := fieldOf_struct hf
  obtain ⟨cs', rfl, hcs⟩ := Rep.agg_iff.1 hx
  obtain ⟨v', h1, h2⟩ := hcs.part (P := P) h
  exact ⟨v', by simp [Instr.field, run_underlying' ht, hf, asAgg]; simpa using h1, h2⟩

theorem run_typeAssert {x : AV} {x' : Value} {xt t : TypeId} {ok : Bool} {v : AV} (hx : Rep w I α x x') (h : typeAssertA P x t ok = some v) :
    ∃ v', (Instr.typeAssert x' xt t ok).run P w = .ok v' w ∧ Rep w I α v v' := by
  unfold typeAssertA at h
  split at h
  · simp at h
  · rename_i d hni ht
    have zero : ∀ z, zeroA P t = some z → ∃ z', (zeroValue t).run P w = .ok z' w ∧ Rep w I α (.tuple [z, .bool false]) (.tuple #[z', .bool false]) := fun z hz => by
      obtain ⟨i, z', h1, h2, h3⟩ := zeroA_info hz
      exact ⟨z', run_zeroValue' h1 h2, Rep.tuple_iff.2 ⟨_, rfl, .cons (rep_ofValue h3) (.cons (.bool _) .nil)⟩⟩
    split at h
    · rename_i t' y
      cases hx with
      | iface _ _ y' hy =>
        by_cases e : t' = t
        · subst e
          simp only [if_true, Option.some.injEq] at h
          subst h
          cases ok with
          | true =>
            refine ⟨.tuple #[y', .bool true], ?_, Rep.tuple_iff.2 ⟨_, rfl, .cons hy (.cons (.bool _) .nil)⟩⟩
            cases d <;> first | (exact (hni _ rfl).elim) | simp [Instr.typeAssert, run_underlying' ht]
          | false =>
            refine ⟨y', ?_, hy⟩
            cases d <;> first | (exact (hni _ rfl).elim) | simp [Instr.typeAssert, run_underlying' ht]
        · rw [if_neg e] at h
          split at h
          · rename_i hok
            simp only [Option.map_eq_some_iff] at h
            obtain ⟨z, hz, rfl⟩ := h
            obtain ⟨z', h1, h2⟩ := zero z hz
            refine ⟨_, ?_, h2⟩
            cases d <;> first | (exact (hni _ rfl).elim) | simp [Instr.typeAssert, run_underlying' ht, e, hok, h1]
          · simp at h
    · split at h
      · rename_i hok
        simp only [Option.map_eq_some_iff] at h
        obtain ⟨z, hz, rfl⟩ := h
        cases hx
        obtain ⟨z', h1, h2⟩ := zero z hz
        refine ⟨_, ?_, h2⟩
        cases d <;> first | (exact (hni _ rfl).elim) | simp [Instr.typeAssert, run_underlying' ht, hok, h1]
      · simp at h
    · simp at h
  · simp at h

theorem rep_cells_row {w' : World} {I' : Nat → Prop} {α' : Nat → Option Nat} {b : Nat} {c : Array Value} {e : TypeId} {fr : Nat × Nat} {l : List AV} (h : w'.heap[b]? = some (.cells c e fr)) (hl : RepL w' I' α' l c.toList) :
    Row w' I' α' b 0 l := by
  intro j x hx
  obtain ⟨y, h1, h2⟩ := hl.get hx
  refine ⟨y, ?_, h2⟩
  rw [Nat.zero_add]
  simp only [World.cell?, h]
  simpa using h1

theorem bRel_cells {w' : World} {I' : Nat → Prop} {α' : Nat → Option Nat} {b : Nat} {c : Array Value} {e : TypeId} {l : List AV} (h : w'.heap[b]? = some (.cells c e (0, 0))) (hl : RepL w' I' α' l c.toList) :
    BRel w' I' α' b (.cells l) := by
  have hc : l.length = c.size := by have := hl.1; simpa using this
  exact ⟨c, e, h, by omega, by rw [hc, ← Array.length_toList, List.take_length]; exact hl⟩

theorem implV_box {t : TypeId} {x : AV} {x' : Value} {s : Sem Value} (c : Ctx P G call w I α H rid nx) (hx : Rep w I α x x')
    (hs : s.run P w = .ok (.pointer (some ⟨w.heap.size, 0, none⟩)) { w with heap := w.heap.push (.cells x'.cells t) }) :
    ImplV P G call w I α H rid nx s (.new (.cells x.cells) fun id => .ptr id 0) := by
  refine impl_new c (w' := { w with heap := w.heap.push (.cells x'.cells t) }) (by rw [hs]; rfl) rfl (fun α' hα rel => ?_) (fun α' hα => .ptr _ _ _ hα)
  refine bRel_cells (c := x'.cells) (e := t) (by simp) ?_
  have ev : Ev w I α H { w with heap := w.heap.push (.cells x'.cells t) } I α H := ev_push rfl I (fun _ h => h) (fun _ h => .inl h)
  have := hx.cells.ev c.rel ev
  exact ⟨this.1, fun i a b h1 h2 => (this.2 i a b h1 h2).mono (fun _ h => h) hα (fun _ _ _ => rfl) (fun _ _ _ => rfl)⟩

theorem implV_alloc {t : TypeId} {z : AV} (c : Ctx P G call w I α H rid nx) (hz : zeroA P t = some z) :
    ImplV P G call w I α H rid nx (Instr.alloc t true (.tuple #[])) (.new (.cells z.cells) fun id => .ptr id 0) := by
  obtain ⟨i, v, h1, h2, h3⟩ := zeroA_info hz
  exact implV_box (t := t) c (rep_ofValue h3) (by simp [Instr.alloc, run_zeroValue' h1 h2, newVar, newRow])

end
end Go.Proofs.Abs
