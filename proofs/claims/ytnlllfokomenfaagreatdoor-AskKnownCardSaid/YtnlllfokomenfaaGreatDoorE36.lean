/- Small laws of the abstract machine's functions: bytes, rows, numbers, what becomes part of a value. -/
import Derived.Test.YtnlllfokomenfaaGreatDoorE35
namespace Go.Proofs.Abs
open Go

/-! ### What becomes part of a value -/

mutual
theorem freezeA_mono {n : Nat} {h : Heap} : ∀ {d : Nat} {v r : AV}, freezeA n h d v = some r → freezeA n h (d + 1) v = some r
  | 0, _, _, hv => by simp [freezeA] at hv
  | d + 1, v, r, hv => by
    have L : ∀ {l l' : List AV}, mapL (freezeA n h d) l = some l' → mapL (freezeA n h (d + 1)) l = some l' := fun {l l'} hl => mapLF_mono hl
    cases v with
    | ptr id off =>
      rw [freezeA] at hv ⊢
      split at hv
      · exact hv
      · rename_i hb
        split at hv
        · rename_i l hl
          try rw [hl]
          try simp only
          split at hv
          · rename_i l' hl'; rw [L hl']; exact hv
          · cases hv
        · cases hv
    | rsl own id off len sz =>
      rw [freezeA] at hv ⊢
      split at hv
      · exact hv
      · rename_i hb
        split at hv
        · rename_i l hl
          try rw [hl]
          try simp only
          split at hv
          · rename_i es hes
            split at hv
            · rename_i l' hl'; rw [L hl']; exact hv
            · cases hv
          · cases hv
        · cases hv
    | fptr cs off =>
      rw [freezeA] at hv ⊢
      split at hv
      · rename_i l' hl'; rw [L hl']; exact hv
      · cases hv
    | fsl f es =>
      rw [freezeA] at hv ⊢
      split at hv
      · rename_i l' hl'; rw [L hl']; exact hv
      · cases hv
    | agg cs =>
      rw [freezeA] at hv ⊢
      split at hv
      · rename_i l' hl'; rw [L hl']; exact hv
      · cases hv
    | tuple cs =>
      rw [freezeA] at hv ⊢
      split at hv
      · rename_i l' hl'; rw [L hl']; exact hv
      · cases hv
    | func fn a b =>
      rw [freezeA] at hv ⊢
      split at hv
      · rename_i a' b' ha hb; rw [L ha, L hb]; exact hv
      · cases hv
    | iface t v =>
      rw [freezeA] at hv ⊢
      split at hv
      · rename_i l' hl'; rw [freezeA_mono hl']; exact hv
      · cases hv
    | _ => exact hv
theorem mapLF_mono {n : Nat} {h : Heap} {d : Nat} : ∀ {l l' : List AV}, mapL (freezeA n h d) l = some l' → mapL (freezeA n h (d + 1)) l = some l'
  | [], _, hl => by simpa [mapL] using hl
  | a :: t, l', hl => by
    simp only [mapL] at hl ⊢
    split at hl
    · rename_i b hb
      split at hl
      · rename_i u hu
        simp only [freezeA_mono hb, mapLF_mono hu]; exact hl
      · cases hl
    · cases hl
end

theorem freezeA_le {n : Nat} {h : Heap} {d e : Nat} {v r : AV} (hd : d ≤ e) (hv : freezeA n h d v = some r) : freezeA n h e v = some r := by
  induction hd with
  | refl => exact hv
  | step _ ih => exact freezeA_mono ih
theorem mapLF_le {n : Nat} {h : Heap} {d e : Nat} {l l' : List AV} (hd : d ≤ e) (hl : mapL (freezeA n h d) l = some l') : mapL (freezeA n h e) l = some l' := by
  induction hd with
  | refl => exact hl
  | step _ ih => exact mapLF_mono ih

/-- A value, with what it leads to made part of it. -/
structure Frz (n : Nat) (h : Heap) (v r : AV) : Prop where
  out : ∃ d, freezeA n h d v = some r
structure FrzL (n : Nat) (h : Heap) (l l' : List AV) : Prop where
  out : ∃ d, mapL (freezeA n h d) l = some l'

theorem FrzL.nil {n : Nat} {h : Heap} : FrzL n h [] [] := ⟨0, rfl⟩
theorem FrzL.cons {n : Nat} {h : Heap} {a b : AV} {t u : List AV} (h1 : Frz n h a b) (h2 : FrzL n h t u) : FrzL n h (a :: t) (b :: u) := by
  obtain ⟨d, h1⟩ := h1
  obtain ⟨e, h2⟩ := h2
  exact ⟨max d e, by simp only [mapL, freezeA_le (Nat.le_max_left d e) h1, mapLF_le (Nat.le_max_right d e) h2]⟩
theorem FrzL.append {n : Nat} {h : Heap} : ∀ {a b c d : List AV}, FrzL n h a b → FrzL n h c d → FrzL n h (a ++ c) (b ++ d)
  | [], b, _, _, h1, h2 => by
    obtain ⟨e, h1⟩ := h1
    simp only [mapL, Option.some.injEq] at h1
    subst h1; exact h2
  | x :: t, b, c, d, h1, h2 => by
    obtain ⟨e, h1⟩ := h1
    simp only [mapL] at h1
    split at h1
    · rename_i y hy
      split at h1
      · rename_i u hu
        simp only [Option.some.injEq] at h1
        subst h1
        exact FrzL.cons ⟨e, hy⟩ (FrzL.append ⟨e, hu⟩ h2)
      · cases h1
    · cases h1
theorem Frz.agg {n : Nat} {h : Heap} {l l' : List AV} (hl : FrzL n h l l') : Frz n h (.agg l) (.agg l') := by
  obtain ⟨d, hl⟩ := hl; exact ⟨d + 1, by simp only [freezeA, hl]⟩
theorem Frz.tuple {n : Nat} {h : Heap} {l l' : List AV} (hl : FrzL n h l l') : Frz n h (.tuple l) (.tuple l') := by
  obtain ⟨d, hl⟩ := hl; exact ⟨d + 1, by simp only [freezeA, hl]⟩
theorem Frz.fsl {n : Nat} {h : Heap} {f : Bool} {l l' : List AV} (hl : FrzL n h l l') : Frz n h (.fsl f l) (.fsl f l') := by
  obtain ⟨d, hl⟩ := hl; exact ⟨d + 1, by simp only [freezeA, hl]⟩
theorem Frz.fptr {n : Nat} {h : Heap} {o : Nat} {l l' : List AV} (hl : FrzL n h l l') : Frz n h (.fptr l o) (.fptr l' o) := by
  obtain ⟨d, hl⟩ := hl; exact ⟨d + 1, by simp only [freezeA, hl]⟩
theorem Frz.rsl {n : Nat} {h : Heap} {own : Bool} {id off len sz : Nat} {c es l' : List AV} (hn : Nat.blt id n = false) (hg : hget h id = some (.cells c)) (hc : cutElems sz len (c.drop off) = some es) (hl : FrzL n h es l') : Frz n h (.rsl own id off len sz) (.fsl false l') := by
  obtain ⟨d, hl⟩ := hl; exact ⟨d + 1, by simp only [freezeA, hn, hg, hc, hl]⟩
theorem Frz.ptr {n : Nat} {h : Heap} {id off : Nat} {c l' : List AV} (hn : Nat.blt id n = false) (hg : hget h id = some (.cells c)) (hl : FrzL n h c l') : Frz n h (.ptr id off) (.fptr l' off) := by
  obtain ⟨d, hl⟩ := hl; exact ⟨d + 1, by simp only [freezeA, hn, hg, hl]⟩
theorem Frz.keepR {n : Nat} {h : Heap} {own : Bool} {id off len sz : Nat} (hn : Nat.blt id n = true) : Frz n h (.rsl own id off len sz) (.rsl own id off len sz) := ⟨1, by simp only [freezeA, hn]⟩
theorem Frz.keepP {n : Nat} {h : Heap} {id off : Nat} (hn : Nat.blt id n = true) : Frz n h (.ptr id off) (.ptr id off) := ⟨1, by simp only [freezeA, hn]⟩
theorem Frz.keepM {n : Nat} {h : Heap} {id : Nat} (hn : Nat.blt id n = true) : Frz n h (.map id) (.map id) := ⟨1, by simp only [freezeA, hn]⟩

mutual
theorem Frz.closed {n : Nat} {h : Heap} : ∀ (v : AV), closedA v = true → Frz n h v v
  | .ptr _ _, hc => by simp [closedA] at hc
  | .rsl _ _ _ _ _, hc => by simp [closedA] at hc
  | .map _, hc => by simp [closedA] at hc
  | .fptr cs _, hc => .fptr (FrzL.closed cs (by simpa [closedA] using hc))
  | .fsl _ cs, hc => .fsl (FrzL.closed cs (by simpa [closedA] using hc))
  | .agg cs, hc => .agg (FrzL.closed cs (by simpa [closedA] using hc))
  | .tuple cs, hc => .tuple (FrzL.closed cs (by simpa [closedA] using hc))
  | .func fn a b, hc => by
    simp only [closedA, Bool.and_eq_true] at hc
    obtain ⟨d, h1⟩ := FrzL.closed (n := n) (h := h) a hc.1
    obtain ⟨e, h2⟩ := FrzL.closed (n := n) (h := h) b hc.2
    exact ⟨max d e + 1, by simp only [freezeA, mapLF_le (Nat.le_max_left d e) h1, mapLF_le (Nat.le_max_right d e) h2]⟩
  | .iface t v, hc => by
    obtain ⟨d, h1⟩ := Frz.closed (n := n) (h := h) v (by simpa [closedA] using hc)
    exact ⟨d + 1, by simp only [freezeA, h1]⟩
  | .bool _, _ => ⟨1, rfl⟩
  | .int _ _, _ => ⟨1, rfl⟩
  | .str _, _ => ⟨1, rfl⟩
  | .nilp, _ => ⟨1, rfl⟩
  | .gptr _ _, _ => ⟨1, rfl⟩
  | .nilsl, _ => ⟨1, rfl⟩
  | .nilmap, _ => ⟨1, rfl⟩
  | .nilFunc, _ => ⟨1, rfl⟩
  | .nilIface, _ => ⟨1, rfl⟩
theorem FrzL.closed {n : Nat} {h : Heap} : ∀ (l : List AV), closedAll l = true → FrzL n h l l
  | [], _ => .nil
  | a :: t, hc => by
    simp only [closedAll, Bool.and_eq_true] at hc
    exact .cons (Frz.closed a hc.1) (FrzL.closed t hc.2)
end

/-- A row of elements becomes a slice of them. -/
def goodEl (sz : Nat) (e : AV) : Prop := e.cells.length = sz ∧ mkElem e.cells = e
theorem cutElems_flat {sz : Nat} : ∀ {es : List AV} (r : List AV), (∀ e ∈ es, goodEl sz e) → cutElems sz es.length (flat es ++ r) = some es
  | [], r, _ => rfl
  | e :: t, r, h => by
    obtain ⟨h1, h2⟩ := h e (by simp)
    have ih := cutElems_flat (es := t) r fun x hx => h x (by simp [hx])
    have hc : chunk (flat (e :: t) ++ r) 0 sz = some e.cells := by
      rw [chunk_drop _ _ _ (by simp only [flat, List.length_append]; omega)]
      simp only [flat, List.drop_zero, List.append_assoc]
      rw [List.take_left' h1]
    simp only [List.length_cons, cutElems, hc]
    have hd : (flat (e :: t) ++ r).drop sz = flat t ++ r := by
      simp only [flat, List.append_assoc]
      rw [List.drop_left' h1]
    rw [hd, ih, h2]
    rfl
theorem Frz.row {n : Nat} {h : Heap} {own : Bool} {id len sz : Nat} {c es : List AV} (hn : Nat.blt id n = false) (hg : hget h id = some (.cells c)) (hc : c = flat es) (hl : len = es.length) (hes : ∀ e ∈ es, goodEl sz e) (hcl : closedAll es = true) : Frz n h (.rsl own id 0 len sz) (.fsl false es) := by
  subst hc hl
  refine .rsl hn hg ?_ (FrzL.closed es hcl)
  have := cutElems_flat (es := es) [] hes
  simpa using this

/-! ### Bytes -/

theorem toBytes_map : ∀ s : List UInt8, toBytes s = s.map fun b => .int .u8 (.ofNat b.toNat)
  | [] => rfl
  | b :: t => by simp only [toBytes, List.map_cons, toBytes_map t]
theorem toBytes_append (s t : List UInt8) : toBytes (s ++ t) = toBytes s ++ toBytes t := by simp [toBytes_map]
theorem toBytes_take (n : Nat) (s : List UInt8) : (toBytes s).take n = toBytes (s.take n) := by simp [toBytes_map, List.map_take]
theorem toBytes_drop (n : Nat) (s : List UInt8) : (toBytes s).drop n = toBytes (s.drop n) := by simp [toBytes_map, List.map_drop]
@[simp] theorem lenN_toBytes (s : List UInt8) : lenN (toBytes s) = s.length := by rw [lenN_eq, toBytes_map]; simp
@[simp] theorem flat_toBytes (s : List UInt8) : flat (toBytes s) = toBytes s := (toBytes_flat s).1
@[simp] theorem bytesOf_toB : ∀ s : List UInt8, bytesOf (toBytes s) = some s
  | [] => rfl
  | b :: t => by
    have e : UInt8.ofNat (Int.ofNat b.toNat).toNat = b := by
      show UInt8.ofNat b.toNat = b
      exact UInt8.ofNat_toNat
    simp only [toBytes, bytesOf, bytesOf_toB t, Option.map_some, e]
@[simp] theorem strOf_toBytes (s : List UInt8) : strOf (toBytes s) = s := by simp [strOf]
@[simp] theorem closedAll_toBytes : ∀ s : List UInt8, closedAll (toBytes s) = true
  | [] => rfl
  | b :: t => by simp only [toBytes, closedAll, closedA, closedAll_toBytes t, Bool.and_self]
@[simp] theorem allOne_toBytes : ∀ s : List UInt8, allOne (toBytes s) = true
  | [] => rfl
  | b :: t => by simp only [toBytes, allOne, AV.one, allOne_toBytes t, Bool.and_self]
@[simp] theorem allSize_toBytes : ∀ s : List UInt8, allSize 1 (toBytes s) = true
  | [] => rfl
  | b :: t => by
    have e : lenN (AV.int .u8 (.ofNat b.toNat)).cells = 1 := rfl
    simp only [toBytes, allSize, allSize_toBytes t, e, Nat.beq_refl, Bool.and_self]
@[simp] theorem headSize_toBytes (s : List UInt8) : headSize 1 (toBytes s) = true := by cases s <;> rfl
theorem goodEl_toBytes {s : List UInt8} : ∀ e ∈ toBytes s, goodEl 1 e := by
  intro e he
  rw [toBytes_map, List.mem_map] at he
  obtain ⟨b, _, rfl⟩ := he
  exact ⟨rfl, rfl⟩
theorem repE_zero : ∀ n : Nat, repE (.int .u8 0) n = toBytes (List.replicate n 0)
  | 0 => rfl
  | n + 1 => by
    simp only [repE, List.replicate_succ, toBytes, repE_zero n]
    rfl
theorem getN_toBytes (s : List UInt8) (i : Nat) : getN (toBytes s) i = (s[i]?).map fun b => .int .u8 (.ofNat b.toNat) := by rw [getN_eq, toBytes_map, List.getElem?_map]
theorem Frz.bytes {n : Nat} {h : Heap} {own : Bool} {id len : Nat} {c : List AV} {s : List UInt8} (hn : Nat.blt id n = false) (hg : hget h id = some (.cells c)) (hc : c = toBytes s) (hl : len = s.length) : Frz n h (.rsl own id 0 len 1) (.fsl false (toBytes s)) :=
  .row hn hg (by rw [hc, flat_toBytes]) (by rw [hl, toBytes_map]; simp) goodEl_toBytes (closedAll_toBytes s)

/-! ### Lists -/

theorem closedAll_iff : ∀ {l : List AV}, closedAll l = true ↔ ∀ a ∈ l, closedA a = true
  | [] => by simp [closedAll]
  | a :: t => by simp only [closedAll, Bool.and_eq_true, closedAll_iff (l := t), List.forall_mem_cons]
theorem closedAll_map {α : Type} {f : α → AV} {l : List α} (h : ∀ x, closedA (f x) = true) : closedAll (l.map f) = true := closedAll_iff.2 fun a ha => by
  obtain ⟨x, _, rfl⟩ := List.mem_map.1 ha; exact h x
theorem closedAll_append {a b : List AV} : closedAll (a ++ b) = (closedAll a && closedAll b) := by
  induction a with
  | nil => simp [closedAll]
  | cons x t ih => simp [closedAll, ih, Bool.and_assoc]
theorem allSize_iff {sz : Nat} : ∀ {l : List AV}, allSize sz l = true ↔ ∀ e ∈ l, e.cells.length = sz
  | [] => by simp [allSize]
  | a :: t => by simp only [allSize, Bool.and_eq_true, beq_iff, lenN_eq, allSize_iff (l := t), List.forall_mem_cons]
theorem allOne_iff : ∀ {l : List AV}, allOne l = true ↔ ∀ e ∈ l, e.one = true
  | [] => by simp [allOne]
  | a :: t => by simp only [allOne, Bool.and_eq_true, allOne_iff (l := t), List.forall_mem_cons]
theorem flat_append : ∀ (a b : List AV), flat (a ++ b) = flat a ++ flat b
  | [], b => rfl
  | x :: t, b => by simp only [List.cons_append, flat, flat_append t b, List.append_assoc]
theorem getN_append_self {α : Type} (pre : List α) (x : α) (rest : List α) : getN (pre ++ x :: rest) (lenN pre) = some x := by
  rw [getN_eq, lenN_eq]; simp
theorem lenN_append {α : Type} (a b : List α) : lenN (a ++ b) = lenN a + lenN b := by simp [lenN_eq]
theorem lenN_map {α β : Type} (f : α → β) (l : List α) : lenN (l.map f) = lenN l := by simp [lenN_eq]

/-! ### Numbers -/

theorem ltInt_iff {a b : Int} : ltInt a b = true ↔ a < b := by rw [ltInt_eq]; simp
theorem ltInt_false {a b : Int} : ltInt a b = false ↔ b ≤ a := by rw [ltInt_eq]; simp
theorem beqInt_iff {a b : Int} : beqInt a b = true ↔ a = b := by rw [beqInt_eq]; simp
theorem beqInt_false {a b : Int} : beqInt a b = false ↔ a ≠ b := by rw [beqInt_eq]; simp
theorem beqBytes_iff {a b : List UInt8} : beqBytes a b = true ↔ a = b := by rw [beqBytes_eq]; simp
theorem beqBytes_false {a b : List UInt8} : beqBytes a b = false ↔ a ≠ b := by rw [beqBytes_eq]; simp
theorem wrapA_i64 {n : Int} (h1 : -9223372036854775808 ≤ n) (h2 : n ≤ 9223372036854775807) : wrapA .i64 n = n := by
  rw [wrapA_eq]; exact IntWalk.i64_in _ ⟨by omega, by omega⟩
theorem nonneg_iff {n : Int} : nonneg n = true ↔ 0 ≤ n := by
  cases n with
  | ofNat m => simp [nonneg]
  | negSucc m => simp [nonneg]

end Go.Proofs.Abs
