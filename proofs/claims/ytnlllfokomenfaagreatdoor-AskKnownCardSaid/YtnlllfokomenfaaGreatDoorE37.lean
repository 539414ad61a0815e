/- What arguments are: numbers, texts, slices of plain elements. -/
import Derived.Test.YtnlllfokomenfaaGreatDoorE36
import Derived.OpenShut
import Derived.LaidMore
namespace Go.Proofs.Abs
open Go

theorem exists_list {α : Type} {Q : Nat → α → Prop} : ∀ (n : Nat), (∀ i, i < n → ∃ x, Q i x) → ∃ l : List α, l.length = n ∧ ∀ i x, l[i]? = some x → Q i x
  | 0, _ => ⟨[], rfl, by simp⟩
  | n + 1, h => by
    obtain ⟨l, h1, h2⟩ := exists_list n fun i hi => h i (by omega)
    obtain ⟨x, hx⟩ := h n (by omega)
    refine ⟨l ++ [x], by simp [h1], fun i y hy => ?_⟩
    rcases Nat.lt_or_ge i n with hi | hi
    · rw [List.getElem?_append_left (by omega)] at hy
      exact h2 i y hy
    · rw [List.getElem?_append_right (by omega)] at hy
      have : i - l.length = 0 := by
        have := (List.getElem?_eq_some_iff.1 hy).1
        simp at this; omega
      rw [this] at hy
      simp at hy; subst hy
      have : i = n := by omega
      subst this; exact hx

theorem addr_add {a : Addr} (h : a.spot = none) (n : Nat) : a.add n = ⟨a.block, a.off + n, none⟩ := by
  obtain ⟨b, o, s⟩ := a
  simp only at h; subst h
  unfold Addr.add
  split
  · rename_i h0; subst h0; rfl
  · rfl

section
variable {H : Type} {enc : TypeId × Value → H} {P : Program} {w : World} {base : Nat} {spare : Nat → Bool} {held : Bool} {t e : TypeId} {v : Value} {d : DataW H} {ps : List MemPlace}

theorem open_int {k : IntKind} (ht : P.underlying t = some (.int k)) (hok : Value.okWide P w .any base t v) (h : DataW.Trod enc P w 0 spare held t v d ps) : ∃ n : Int, v = .int k n ∧ k.min ≤ n ∧ n ≤ k.max := by
  obtain ⟨fuel, hd⟩ := h
  obtain ⟨n, e1, _, h2⟩ := DataW.trod_int ht hd
  have h2 : k.min ≤ n ∧ n ≤ k.max := by simpa [Lit.wf] using h2
  refine ⟨n, ?_, h2⟩
  simp only [Value.okWide, ht] at hok
  cases v with
  | agg cs => simp [Cell.okWide, Cell.ok, ht] at hok
  | int k' n' => simp only [Value.cells, List.cons.injEq] at e1; simpa using e1
  | _ => simp [Value.cells] at e1

theorem open_bool (ht : P.underlying t = some .bool) (hok : Value.okWide P w .any base t v) (h : DataW.Trod enc P w 0 spare held t v d ps) : ∃ b : Bool, v = .bool b := by
  obtain ⟨fuel, hd⟩ := h
  obtain ⟨n, e1, _⟩ := DataW.trod_bool ht hd
  refine ⟨n, ?_⟩
  simp only [Value.okWide, ht] at hok
  cases v with
  | agg cs => simp [Cell.okWide, Cell.ok, ht] at hok
  | bool b => simpa [Value.cells] using e1
  | _ => simp [Value.cells] at e1

theorem open_string (ht : P.underlying t = some .string) (hok : Value.okWide P w .any base t v) (h : DataW.Trod enc P w 0 spare held t v d ps) : ∃ b : ByteArray, v = .string b ∧ b.data.toList.length ≤ maxLen := by
  obtain ⟨fuel, hd⟩ := h
  obtain ⟨n, e1, _, h2⟩ := DataW.trod_string ht hd
  refine ⟨n, ?_, h2⟩
  simp only [Value.okWide, ht] at hok
  cases v with
  | agg cs => simp [Cell.okWide, Cell.ok, ht] at hok
  | string b => simpa [Value.cells] using e1
  | _ => simp [Value.cells] at e1

/-- How the cells of a type's elements are read. -/
def ReadsC (H : Type) (enc : TypeId × Value → H) (P : Program) (w : World) (spare : Nat → Bool) (held : Bool) (e : TypeId) (m : Nat) (p : List AV → Prop) : Prop :=
  P.cellsOf e = m ∧ 0 < m ∧ ∀ (fuel : Nat) (cs : List Value) (x : DataW H × List MemPlace), cs.length = m → DataW.trod enc P w 0 spare held fuel e cs = some x → ∃ l, RepL w (fun b => b < w.heap.size) (fun _ => none) l cs ∧ p l

theorem cells_get {a : Addr} {n : Nat} {cs : List Value} (h : w.cells? 0 a n = some cs) : cs.length = n ∧ ∀ j, j < n → w.cell? (a.add j) = cs[j]? := by
  unfold World.cells? at h
  rw [if_pos (Nat.zero_le _)] at h
  refine ⟨by simpa using mapM_some_length h, fun j hj => ?_⟩
  exact mapM_some_get h j j (by simp [hj])

theorem open_slice {m : Nat} {p : List AV → Prop} (ht : P.underlying t = some (.slice e)) (he : ReadsC H enc P w spare held e m p) (hok : Value.okWide P w .any base t v) (h : DataW.Trod enc P w 0 spare held t v d ps) :
    v = .slice none 0 0 ∨ ∃ ess : List (List AV), Rep w (fun b => b < w.heap.size) (fun _ => none) (.fsl false (ess.map mkElem)) v ∧ (∀ c ∈ ess, p c ∧ c.length = m) ∧ ess.length ≤ maxLen := by
  obtain ⟨hm, hpos, hread⟩ := he
  obtain ⟨fuel, hd⟩ := h
  simp only [Value.okWide, ht] at hok
  have hv : v.cells.toList = [v] := by
    cases v with
    | agg cs => simp [Cell.okWide, Cell.ok, ht] at hok
    | _ => rfl
  rw [hv] at hd
  rcases DataW.trod_slice ht hd with ⟨e1, _⟩ | ⟨a, len, cap, elems, rest, n, _, e1, _, _, hlc, hcap, hel, hget, _, _⟩
  · left; simpa using e1
  · right
    have e1 : v = .slice (some a) len cap := by simpa using e1
    subst e1
    have hspot : a.spot = none := by
      simp only [Cell.okWide, Cell.ok, ht, World.has] at hok
      exact hok.2.2.2.1
    rw [hm] at hget
    have each : ∀ i, i < len → ∃ x : List AV × List Value, w.cells? 0 (a.add (i * m)) m = some x.2 ∧ RepL w (fun b => b < w.heap.size) (fun _ => none) x.1 x.2 ∧ p x.1 ∧ x.1.length = m := fun i hi => by
      have h1 := hget i hi
      have h2 : elems[i]? ≠ none := by
        rw [List.getElem?_eq_getElem (by omega)]; simp
      cases hc : w.cells? 0 (a.add (i * m)) m with
      | none => rw [hc] at h1; exact absurd h1.symm h2
      | some cs =>
        rw [hc] at h1
        simp only [Option.bind_some] at h1
        cases hx : elems[i]? with
        | none => exact absurd hx h2
        | some x =>
          rw [hx] at h1
          obtain ⟨l, hl, hp⟩ := hread n cs x (cells_get hc).1 h1
          exact ⟨(l, cs), rfl, hl, hp, by rw [hl.1]; exact (cells_get hc).1⟩
    obtain ⟨xs, hlen, hxs⟩ := exists_list len each
    refine ⟨xs.map (·.1), ?_, fun c hc => ?_, ?_⟩
    · have hat : ∀ (i : Nat) (u : AV), (List.map mkElem (xs.map (·.1)))[i]? = some u → ∃ x : List AV × List Value, xs[i]? = some x ∧ u = mkElem x.1 := fun i u hu => by
        rw [List.getElem?_map, List.getElem?_map] at hu
        cases hx : xs[i]? with
        | none => rw [hx] at hu; cases hu
        | some x => rw [hx] at hu; exact ⟨x, rfl, by simpa using hu.symm⟩
      refine .fsl false _ (some a) len cap m a.block a.off (fun i j => ((xs[i]?.map (·.2)).getD [])[j]?.getD default) (by simp [hlen]) hlc (fun h => by cases h) (by rw [← hspot]) (fun hne => ?_) (fun u hu => ?_) (fun i u j c hu hc => ?_) (fun i u j c hu hc => ?_)
      · have hpos' : 0 < len := by
          rcases Nat.eq_zero_or_pos len with h0 | h0
          · have : xs = [] := List.length_eq_zero_iff.1 (by omega)
            subst this; exact absurd rfl hne
          · exact h0
        obtain ⟨x, hx⟩ : ∃ x, xs[0]? = some x := ⟨xs[0]'(by omega), List.getElem?_eq_getElem (by omega)⟩
        have := World.cells?_block (hxs 0 x hx).1 hpos
        rw [addr_add hspot] at this
        exact this
      · obtain ⟨i, hi⟩ := List.getElem?_of_mem hu
        obtain ⟨x, hx, rfl⟩ := hat i u hi
        rw [mkElem_cells]; exact (hxs i x hx).2.2.2
      · obtain ⟨x, hx, rfl⟩ := hat i u hu
        rw [mkElem_cells] at hc
        obtain ⟨h1, h2, h3, h4⟩ := hxs i x hx
        obtain ⟨y, hy, _⟩ := h2.get hc
        have hj : j < m := by rw [← h4]; exact (List.getElem?_eq_some_iff.1 hc).1
        have := (cells_get h1).2 j hj
        rw [addr_add hspot, addr_add rfl] at this
        simp only [hx, Option.map_some, Option.getD_some, hy]
        rw [this, hy]
      · obtain ⟨x, hx, rfl⟩ := hat i u hu
        rw [mkElem_cells] at hc
        obtain ⟨h1, h2, h3, h4⟩ := hxs i x hx
        obtain ⟨y, hy, hr⟩ := h2.get hc
        simpa only [hx, Option.map_some, Option.getD_some, hy] using hr
    · obtain ⟨x, hx, rfl⟩ := List.mem_map.1 hc
      obtain ⟨i, hi⟩ := List.getElem?_of_mem hx
      exact (hxs i x hi).2.2
    · simp only [List.length_map, hlen]; exact Nat.le_trans hlc hcap

theorem reads_byte (he : P.underlying e = some (.int .u8)) (hc : P.cellsOf e = 1) : ReadsC H enc P w spare held e 1 fun l => ∃ b : UInt8, l = [.int .u8 (.ofNat b.toNat)] := by
  refine ⟨hc, by omega, fun fuel cs x _ h => ?_⟩
  obtain ⟨n, rfl, _, hw⟩ := DataW.trod_int he h
  have hw : IntKind.u8.min ≤ n ∧ n ≤ IntKind.u8.max := by simpa [Lit.wf] using hw
  have h0 : 0 ≤ n := hw.1
  have h1 : n ≤ 255 := hw.2
  refine ⟨[.int .u8 n], .cons (.int _ _) .nil, UInt8.ofNat n.toNat, ?_⟩
  have : ((UInt8.ofNat n.toNat).toNat : Int) = n := by
    rw [UInt8.toNat_ofNat']
    omega
  show _ = [AV.int .u8 ((UInt8.ofNat n.toNat).toNat : Int)]
  rw [this]

theorem reads_int {k : IntKind} (he : P.underlying e = some (.int k)) (hc : P.cellsOf e = 1) : ReadsC H enc P w spare held e 1 fun l => ∃ n : Int, l = [.int k n] ∧ k.min ≤ n ∧ n ≤ k.max := by
  refine ⟨hc, by omega, fun fuel cs x _ h => ?_⟩
  obtain ⟨n, rfl, _, hw⟩ := DataW.trod_int he h
  have hw : k.min ≤ n ∧ n ≤ k.max := by simpa [Lit.wf] using hw
  exact ⟨[.int k n], .cons (.int _ _) .nil, n, rfl, hw⟩

/-- Four numbers. -/
theorem reads_four {i : TypeId} {k : IntKind} {f0 f1 f2 f3 : Field} (ht : P.underlying e = some (.struct #[f0, f1, f2, f3])) (h0 : f0.type = i ∧ f0.offset = 0) (h1 : f1.type = i ∧ f1.offset = 1) (h2 : f2.type = i ∧ f2.offset = 2) (h3 : f3.type = i ∧ f3.offset = 3)
    (he : P.underlying i = some (.int k)) (hc : P.cellsOf i = 1) (hs : P.cellsOf e = 4) : ReadsC H enc P w spare held e 4 fun l => ∃ a b c z : Int, l = [.int k a, .int k b, .int k c, .int k z] ∧ (k.min ≤ a ∧ a ≤ k.max) ∧ (k.min ≤ b ∧ b ≤ k.max) ∧ (k.min ≤ c ∧ c ≤ k.max) ∧ (k.min ≤ z ∧ z ≤ k.max) := by
  refine ⟨hs, by omega, fun fuel cs x hl h => ?_⟩
  obtain ⟨xs, n, _, _, _, hxl, hel⟩ := DataW.trod_struct ht h
  have at' : ∀ (j : Nat) (f : Field), j < 4 → #[f0, f1, f2, f3][j]? = some f → f.type = i → f.offset = j → ∃ z, cs[j]? = some (.int k z) ∧ k.min ≤ z ∧ z ≤ k.max := fun j f hj hf hte ho => by
    have hE := hel j f hf
    rw [hte, hc, ho, List.getElem?_eq_getElem (by rw [hxl]; simpa using hj)] at hE
    obtain ⟨z, e1, _, hw⟩ := DataW.trod_int he hE
    have e7 : ((cs.drop j).take 1)[0]? = some (.int k z) := by rw [e1]; rfl
    rw [List.getElem?_take_of_lt (by omega), List.getElem?_drop] at e7
    exact ⟨z, by simpa using e7, by simpa [Lit.wf] using hw⟩
  obtain ⟨a, ha, wa⟩ := at' 0 f0 (by omega) rfl h0.1 h0.2
  obtain ⟨b, hb, wb⟩ := at' 1 f1 (by omega) rfl h1.1 h1.2
  obtain ⟨c, hc', wc⟩ := at' 2 f2 (by omega) rfl h2.1 h2.2
  obtain ⟨z, hz, wz⟩ := at' 3 f3 (by omega) rfl h3.1 h3.2
  refine ⟨[.int k a, .int k b, .int k c, .int k z], ?_, a, b, c, z, rfl, wa, wb, wc, wz⟩
  have : cs = [.int k a, .int k b, .int k c, .int k z] := by
    apply List.ext_getElem?
    intro j
    match j with
    | 0 => exact ha
    | 1 => exact hb
    | 2 => exact hc'
    | 3 => exact hz
    | j + 4 => rw [List.getElem?_eq_none (by omega), List.getElem?_eq_none (by simp)]
  subst this
  exact .cons (.int _ _) (.cons (.int _ _) (.cons (.int _ _) (.cons (.int _ _) .nil)))

end
end Go.Proofs.Abs
