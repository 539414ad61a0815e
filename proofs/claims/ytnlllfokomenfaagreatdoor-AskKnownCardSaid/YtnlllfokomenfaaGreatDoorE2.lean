/- How trees stand for the model's values, and short heaps for its memory. -/
import Derived.Test.YtnlllfokomenfaaGreatDoorE1
import Derived.Laws.AppendOwn
import Derived.Laws.CopyOwn
namespace Go.Proofs.Abs
open Go

/-- A tree stands for a value, in a world; I: the blocks that are written no more; α: where a block of the short heap lies. -/
inductive Rep (w : World) (I : Nat → Prop) (α : Nat → Option Nat) : AV → Value → Prop
  | bool (b : Bool) : Rep w I α (.bool b) (.bool b)
  | int (k : IntKind) (n : Int) : Rep w I α (.int k n) (.int k n)
  | str (s : List UInt8) (b : ByteArray) (h : b.data.toList = s) : Rep w I α (.str s) (.string b)
  | ptr (id off b : Nat) (h : α id = some b) : Rep w I α (.ptr id off) (.pointer (some ⟨b, off, none⟩))
  | nilp : Rep w I α .nilp (.pointer none)
  | fptr (cs : List AV) (off b base : Nat) (g : Nat → Value) (hI : I b)
      (hg : ∀ j c, cs[j]? = some c → w.cell? ⟨b, base + j, none⟩ = some (g j))
      (hr : ∀ j c, cs[j]? = some c → Rep w I α c (g j)) : Rep w I α (.fptr cs off) (.pointer (some ⟨b, base + off, none⟩))
  | gptr (g off : Nat) : Rep w I α (.gptr g off) (.pointer (some ⟨g, off, none⟩))
  | fsl (full : Bool) (es : List AV) (a : Option Addr) (len cap sz b base : Nat) (g : Nat → Nat → Value) (hl : es.length = len) (hc : len ≤ cap)
      (hf : full = true → cap = len) (ha : a = some ⟨b, base, none⟩) (hI : es ≠ [] → I b)
      (hs : ∀ e ∈ es, e.cells.length = sz)
      (hg : ∀ i e j c, es[i]? = some e → e.cells[j]? = some c → w.cell? ⟨b, base + i * sz + j, none⟩ = some (g i j))
      (hr : ∀ i e j c, es[i]? = some e → e.cells[j]? = some c → Rep w I α c (g i j)) : Rep w I α (.fsl full es) (.slice a len cap)
  | rsl (own : Bool) (id off len sz cap b : Nat) (h : α id = some b) (hc : len ≤ cap)
      (ho : own = true → ∃ e n, w.shape? b = some (e, n) ∧ off + cap * sz = n) : Rep w I α (.rsl own id off len sz) (.slice (some ⟨b, off, none⟩) len cap)
  | nilsl : Rep w I α .nilsl (.slice none 0 0)
  | map (id b : Nat) (h : α id = some b) : Rep w I α (.map id) (.map (some b))
  | nilmap : Rep w I α .nilmap (.map none)
  | func (fn : Fn) (a c : List AV) (a' c' : Array Value) (h1 : a.length = a'.size) (h2 : c.length = c'.size)
      (h3 : ∀ (i : Nat) x y, a[i]? = some x → a'[i]? = some y → Rep w I α x y) (h4 : ∀ (i : Nat) x y, c[i]? = some x → c'[i]? = some y → Rep w I α x y) :
      Rep w I α (.func fn a c) (.func fn a' c')
  | nilFunc : Rep w I α .nilFunc .nilFunc
  | iface (t : TypeId) (v : AV) (v' : Value) (h : Rep w I α v v') : Rep w I α (.iface t v) (.iface t v')
  | nilIface : Rep w I α .nilIface .nilIface
  | agg (a : List AV) (a' : Array Value) (h1 : a.length = a'.size) (h2 : ∀ (i : Nat) x y, a[i]? = some x → a'[i]? = some y → Rep w I α x y) : Rep w I α (.agg a) (.agg a')
  | tuple (a : List AV) (a' : Array Value) (h1 : a.length = a'.size) (h2 : ∀ (i : Nat) x y, a[i]? = some x → a'[i]? = some y → Rep w I α x y) : Rep w I α (.tuple a) (.tuple a')

section
variable {w w' : World} {I I' : Nat → Prop} {α α' : Nat → Option Nat}

theorem Rep.mono {a : AV} {v : Value} (h : Rep w I α a v) (hI : ∀ b, I b → I' b) (hα : ∀ id b, α id = some b → α' id = some b)
    (hc : ∀ b o, I b → w'.cell? ⟨b, o, none⟩ = w.cell? ⟨b, o, none⟩) (hs : ∀ id b, α id = some b → w'.shape? b = w.shape? b) : Rep w' I' α' a v := by
  induction h with
  | bool b => exact .bool b
  | int k n => exact .int k n
  | str s b h => exact .str s b h
  | ptr id off b h => exact .ptr id off b (hα _ _ h)
  | nilp => exact .nilp
  | fptr cs off b base g hIb hg hr ih => exact .fptr cs off b base g (hI _ hIb) (fun j c e => by rw [hc b _ hIb]; exact hg j c e) ih
  | gptr g off => exact .gptr g off
  | fsl full es a len cap sz b base g hl hcap hf ha hIb hsz hg hr ih =>
    refine .fsl full es a len cap sz b base g hl hcap hf ha (fun h => hI _ (hIb h)) hsz (fun i e j c h1 h2 => ?_) ih
    have hne : es ≠ [] := by intro h; simp [h] at h1
    rw [hc b _ (hIb hne)]; exact hg i e j c h1 h2
  | rsl own id off len sz cap b h hcap ho => exact .rsl own id off len sz cap b (hα _ _ h) hcap (fun he => by rw [hs _ _ h]; exact ho he)
  | nilsl => exact .nilsl
  | map id b h => exact .map id b (hα _ _ h)
  | nilmap => exact .nilmap
  | func fn a c a' c' h1 h2 _ _ ih1 ih2 => exact .func fn a c a' c' h1 h2 ih1 ih2
  | nilFunc => exact .nilFunc
  | iface t v v' _ ih => exact .iface t v v' ih
  | nilIface => exact .nilIface
  | agg a a' h1 _ ih => exact .agg a a' h1 ih
  | tuple a a' h1 _ ih => exact .tuple a a' h1 ih

end

/-- Lists of trees and of values, place by place. -/
def RepL (w : World) (I : Nat → Prop) (α : Nat → Option Nat) (a : List AV) (v : List Value) : Prop :=
  a.length = v.length ∧ ∀ (i : Nat) x y, a[i]? = some x → v[i]? = some y → Rep w I α x y

section
variable {w : World} {I : Nat → Prop} {α : Nat → Option Nat}

theorem RepL.nil : RepL w I α [] [] := ⟨rfl, by simp⟩
theorem RepL.cons {x : AV} {y : Value} {a : List AV} {v : List Value} (h : Rep w I α x y) (t : RepL w I α a v) : RepL w I α (x :: a) (y :: v) :=
  ⟨by simp [t.1], fun i x' y' h1 h2 => by
    cases i with
    | zero => simp at h1 h2; subst h1; subst h2; exact h
    | succ i => simp at h1 h2; exact t.2 i _ _ h1 h2⟩
theorem RepL.cons_inv {x : AV} {a : List AV} {v : List Value} (h : RepL w I α (x :: a) v) : ∃ y v', v = y :: v' ∧ Rep w I α x y ∧ RepL w I α a v' := by
  match v, h with
  | [], h => simp [RepL] at h
  | y :: v', h => exact ⟨y, v', rfl, h.2 0 _ _ rfl rfl, ⟨by have := h.1; simpa using this, fun i x' y' h1 h2 => h.2 (i + 1) _ _ (by simpa using h1) (by simpa using h2)⟩⟩
theorem RepL.nil_inv {v : List Value} (h : RepL w I α [] v) : v = [] := by
  exact List.eq_nil_of_length_eq_zero (by have := h.1; simpa using this.symm)
theorem RepL.get {a : List AV} {v : List Value} (h : RepL w I α a v) {i : Nat} {x : AV} (hx : a[i]? = some x) : ∃ y, v[i]? = some y ∧ Rep w I α x y := by
  have hi : i < a.length := by
    rcases Nat.lt_or_ge i a.length with h' | h'
    · exact h'
    · simp [List.getElem?_eq_none h'] at hx
  have hi' : i < v.length := by rw [← h.1]; exact hi
  exact ⟨v[i], by simp, h.2 i _ _ hx (by simp)⟩
theorem RepL.append {a c : List AV} {v u : List Value} (h : RepL w I α a v) (h' : RepL w I α c u) : RepL w I α (a ++ c) (v ++ u) := by
  refine ⟨by simp [h.1, h'.1], fun i x y h1 h2 => ?_⟩
  by_cases hi : i < a.length
  · rw [List.getElem?_append_left hi] at h1
    rw [List.getElem?_append_left (by rw [← h.1]; exact hi)] at h2
    exact h.2 i _ _ h1 h2
  · have hi := Nat.le_of_not_lt hi
    rw [List.getElem?_append_right hi] at h1
    rw [List.getElem?_append_right (by rw [← h.1]; exact hi)] at h2
    rw [← h.1] at h2
    exact h'.2 _ _ _ h1 h2

theorem Rep.agg_iff {a : List AV} {v : Value} : Rep w I α (.agg a) v ↔ ∃ a', v = .agg a' ∧ RepL w I α a a'.toList := by
  constructor
  · intro h
    cases h with
    | agg _ a' h1 h2 => exact ⟨a', rfl, by simpa using h1, fun i x y e1 e2 => h2 i x y e1 (by simpa using e2)⟩
  · rintro ⟨a', rfl, h1, h2⟩
    exact .agg a a' (by simpa using h1) (fun i x y e1 e2 => h2 i x y e1 (by simpa using e2))
theorem Rep.tuple_iff {a : List AV} {v : Value} : Rep w I α (.tuple a) v ↔ ∃ a', v = .tuple a' ∧ RepL w I α a a'.toList := by
  constructor
  · intro h
    cases h with
    | tuple _ a' h1 h2 => exact ⟨a', rfl, by simpa using h1, fun i x y e1 e2 => h2 i x y e1 (by simpa using e2)⟩
  · rintro ⟨a', rfl, h1, h2⟩
    exact .tuple a a' (by simpa using h1) (fun i x y e1 e2 => h2 i x y e1 (by simpa using e2))
theorem Rep.func_iff {fn : Fn} {a c : List AV} {v : Value} : Rep w I α (.func fn a c) v ↔ ∃ a' c', v = .func fn a' c' ∧ RepL w I α a a'.toList ∧ RepL w I α c c'.toList := by
  constructor
  · intro h
    cases h with
    | func _ _ _ a' c' h1 h2 h3 h4 => exact ⟨a', c', rfl, ⟨by simpa using h1, fun i x y e1 e2 => h3 i x y e1 (by simpa using e2)⟩, ⟨by simpa using h2, fun i x y e1 e2 => h4 i x y e1 (by simpa using e2)⟩⟩
  · rintro ⟨a', c', rfl, ⟨h1, h2⟩, ⟨h3, h4⟩⟩
    exact .func fn a c a' c' (by simpa using h1) (by simpa using h3) (fun i x y e1 e2 => h2 i x y e1 (by simpa using e2)) (fun i x y e1 e2 => h4 i x y e1 (by simpa using e2))

theorem Rep.cells {a : AV} {v : Value} (h : Rep w I α a v) : RepL w I α a.cells v.cells.toList := by
  cases h with
  | agg a a' h1 h2 => exact ⟨by simpa [AV.cells, Value.cells] using h1, fun i x y e1 e2 => h2 i x y (by simpa [AV.cells] using e1) (by simpa [Value.cells] using e2)⟩
  | _ => exact .cons (by constructor <;> assumption) .nil

theorem Rep.one {a : AV} {v : Value} (h : Rep w I α a v) (ho : a.one = true) : v.oneCell' = true := by
  cases h <;> simp_all [AV.one, Value.oneCell']
end

/-- What a block of the short heap stands for. -/
def BRel (w : World) (I : Nat → Prop) (α : Nat → Option Nat) (b : Nat) : Blk → Prop
  | .cells l => ∃ c e, w.heap[b]? = some (.cells c e (0, 0)) ∧ l.length ≤ c.size ∧ RepL w I α l (c.toList.take l.length)
  | .siter s pos => ∃ bs, w.heap[b]? = some (.stringIter bs pos) ∧ bs.data.toList = s
  | .mapb clock st es => ∃ en, w.heap[b]? = some (.map en clock) ∧ es.length = en.size ∧ st = en.toList.map (·.born) ∧
      ∀ (i : Nat) x y, es[i]? = some x → en[i]? = some y → Rep w I α x.1 y.key ∧ Rep w I α x.2 y.val
  | .miter m since seen last => ∃ mb, α m = some mb ∧ w.heap[b]? = some (.mapIter (some mb) since seen.toArray last)

abbrev Glob := Nat → Option (List AV)

structure Rel (G : Glob) (w : World) (I : Nat → Prop) (α : Nat → Option Nat) (H : Heap) : Prop where
  live : ∀ id blk, hget H id = some blk → ∃ b, α id = some b ∧ ¬ I b ∧ BRel w I α b blk
  inj : ∀ id id' b, hget H id ≠ none → hget H id' ≠ none → α id = some b → α id' = some b → id = id'
  imm : ∀ b, I b → b < w.heap.size
  dom : ∀ id b, α id = some b → b < w.heap.size
  glob : ∀ g l, G g = some l → I g ∧ ∀ (j : Nat) x, l[j]? = some x → ∃ y, w.cell? ⟨g, j, none⟩ = some y ∧ Rep w I α x y

/-- A block that the short heap owns. -/
def Owned (α : Nat → Option Nat) (H : Heap) (b : Nat) : Prop := ∃ id, hget H id ≠ none ∧ α id = some b

/-- What is outside is as it was. -/
def SameOs (w w' : World) : Prop := w'.os = w.os ∧ w'.tape = w.tape ∧ w'.output = w.output
theorem SameOs.refl (w : World) : SameOs w w := ⟨rfl, rfl, rfl⟩
theorem SameOs.trans {w w' w'' : World} (h : SameOs w w') (h' : SameOs w' w'') : SameOs w w'' := ⟨h'.1.trans h.1, h'.2.1.trans h.2.1, h'.2.2.trans h.2.2⟩

structure Ev (w : World) (I : Nat → Prop) (α : Nat → Option Nat) (H : Heap) (w' : World) (I' : Nat → Prop) (α' : Nat → Option Nat) (H' : Heap) : Prop where
  os : SameOs w w'
  I_mono : ∀ b, I b → I' b
  α_mono : ∀ id b, α id = some b → α' id = some b
  size : w.heap.size ≤ w'.heap.size
  frame : ∀ b, b < w.heap.size → ¬ Owned α H b → w'.heap[b]? = w.heap[b]?
  shape : ∀ b, b < w.heap.size → w'.shape? b = w.shape? b
  Inew : ∀ b, I' b → I b ∨ w.heap.size ≤ b ∨ Owned α H b
  own : ∀ b, Owned α' H' b → w.heap.size ≤ b ∨ Owned α H b

section
variable {G : Glob} {w w' w'' : World} {I I' I'' : Nat → Prop} {α α' α'' : Nat → Option Nat} {H H' H'' : Heap}

theorem Ev.refl : Ev w I α H w I α H := ⟨.refl _, fun _ h => h, fun _ _ h => h, Nat.le_refl _, fun _ _ _ => rfl, fun _ _ => rfl, fun _ h => .inl h, fun _ h => .inr h⟩

theorem Ev.trans (h1 : Ev w I α H w' I' α' H') (h2 : Ev w' I' α' H' w'' I'' α'' H'') : Ev w I α H w'' I'' α'' H'' where
  os := h1.os.trans h2.os
  I_mono b h := h2.I_mono b (h1.I_mono b h)
  α_mono id b h := h2.α_mono id b (h1.α_mono id b h)
  size := Nat.le_trans h1.size h2.size
  frame b hb ho := by
    rw [h2.frame b (Nat.lt_of_lt_of_le hb h1.size) (fun h => by
      rcases h1.own b h with h | h
      · omega
      · exact ho h), h1.frame b hb ho]
  shape b hb := by rw [h2.shape b (Nat.lt_of_lt_of_le hb h1.size), h1.shape b hb]
  Inew b h := by
    rcases h2.Inew b h with h | h | h
    · exact h1.Inew b h
    · exact .inr (.inl (Nat.le_trans h1.size h))
    · exact .inr (h1.own b h)
  own b h := by
    rcases h2.own b h with h | h
    · exact .inl (Nat.le_trans h1.size h)
    · exact h1.own b h

theorem Rel.not_owned (r : Rel G w I α H) {b : Nat} (h : I b) : ¬ Owned α H b := by
  rintro ⟨id, h1, h2⟩
  cases hb : hget H id with
  | none => exact h1 hb
  | some blk =>
    obtain ⟨b', e, hI, _⟩ := r.live id blk hb
    rw [h2] at e; cases e
    exact hI h

theorem Ev.cell (ev : Ev w I α H w' I' α' H') (r : Rel G w I α H) {b : Nat} (o : Nat) (h : I b) : w'.cell? ⟨b, o, none⟩ = w.cell? ⟨b, o, none⟩ := by
  have := ev.frame b (r.imm b h) (r.not_owned h)
  simp [World.cell?, this]

theorem Rep.ev {a : AV} {v : Value} (h : Rep w I α a v) (r : Rel G w I α H) (ev : Ev w I α H w' I' α' H') : Rep w' I' α' a v :=
  h.mono ev.I_mono ev.α_mono (fun _ o hb => ev.cell r o hb) (fun id b hb => ev.shape b (r.dom id b hb))

theorem RepL.ev {a : List AV} {v : List Value} (h : RepL w I α a v) (r : Rel G w I α H) (ev : Ev w I α H w' I' α' H') : RepL w' I' α' a v :=
  ⟨h.1, fun i x y h1 h2 => (h.2 i x y h1 h2).ev r ev⟩

/-- Blocks that did not turn stand for what they stood for. -/
theorem BRel.ev {b : Nat} {blk : Blk} (h : BRel w I α b blk) (r : Rel G w I α H) (ev : Ev w I α H w' I' α' H') (hb : w'.heap[b]? = w.heap[b]?) : BRel w' I' α' b blk := by
  cases blk with
  | cells l => obtain ⟨c, e, h1, h2, h3⟩ := h; exact ⟨c, e, by rw [hb, h1], h2, h3.ev r ev⟩
  | siter s pos => obtain ⟨bs, h1, h2⟩ := h; exact ⟨bs, by rw [hb, h1], h2⟩
  | mapb cl st es => obtain ⟨en, h1, h2, h4, h3⟩ := h; exact ⟨en, by rw [hb, h1], h2, h4, fun i x y e1 e2 => ⟨(h3 i x y e1 e2).1.ev r ev, (h3 i x y e1 e2).2.ev r ev⟩⟩
  | miter m since seen last => obtain ⟨mb, h1, h2⟩ := h; exact ⟨mb, ev.α_mono m mb h1, by rw [hb, h2]⟩

theorem glob_ev (r : Rel G w I α H) (ev : Ev w I α H w' I' α' H') : ∀ g l, G g = some l → I' g ∧ ∀ (j : Nat) x, l[j]? = some x → ∃ y, w'.cell? ⟨g, j, none⟩ = some y ∧ Rep w' I' α' x y := by
  intro g l hg
  obtain ⟨h1, h2⟩ := r.glob g l hg
  refine ⟨ev.I_mono g h1, fun j x hx => ?_⟩
  obtain ⟨y, e, hy⟩ := h2 j x hx
  exact ⟨y, by rw [ev.cell r j h1, e], hy.ev r ev⟩

end

/-! ### The short heap -/

theorem beq_iff {a b : Nat} : Nat.beq a b = true ↔ a = b := by simp
theorem beq_false_iff {a b : Nat} : Nat.beq a b = false ↔ a ≠ b := by
  rw [← Bool.not_eq_true, beq_iff]

theorem hget_cons_self (i : Nat) (b : Option Blk) (t : Heap) : hget ((i, b) :: t) i = b := by simp [hget]
theorem hget_cons_ne {i j : Nat} (b : Option Blk) (t : Heap) (h : i ≠ j) : hget ((i, b) :: t) j = hget t j := by
  have : Nat.beq i j = false := beq_false_iff.2 h
  simp only [hget, this]

theorem blt_iff {a b : Nat} : Nat.blt a b = true ↔ a < b := by simp
theorem blt_false {a b : Nat} (h : Nat.blt a b = false) : ¬ a < b := fun hlt => by
  rw [blt_iff.2 hlt] at h; cases h
theorem blt_false_of {a b : Nat} (h : ¬ a < b) : Nat.blt a b = false := by
  cases hh : Nat.blt a b with
  | false => rfl
  | true => exact absurd (blt_iff.1 hh) h

theorem hset_lt {k i : Nat} (d b : Option Blk) (t : Heap) (h : k < i) : hset ((k, d) :: t) i b = (i, b) :: (k, d) :: t := by
  simp only [hset, beq_false_iff.2 (Nat.ne_of_lt h), blt_iff.2 h]
theorem hset_eq (i : Nat) (d b : Option Blk) (t : Heap) : hset ((i, d) :: t) i b = (i, b) :: t := by
  simp [hset]
theorem hset_gt {k i : Nat} (d b : Option Blk) (t : Heap) (h : i < k) : hset ((k, d) :: t) i b = (k, d) :: hset t i b := by
  simp only [hset, beq_false_iff.2 (Nat.ne_of_gt h), blt_false_of (Nat.not_lt.2 (Nat.le_of_lt h))]

theorem hget_hset_self (H : Heap) (id : Nat) (b : Option Blk) : hget (hset H id b) id = b := by
  induction H with
  | nil => exact hget_cons_self id b []
  | cons p t ih =>
    obtain ⟨i, c⟩ := p
    rcases Nat.lt_trichotomy i id with h | h | h
    · rw [hset_lt _ _ _ h]; exact hget_cons_self _ _ _
    · subst h; rw [hset_eq]; exact hget_cons_self _ _ _
    · rw [hset_gt _ _ _ h, hget_cons_ne _ _ (by omega), ih]

theorem hget_hset_ne (H : Heap) {id id' : Nat} (b : Option Blk) (h : id' ≠ id) : hget (hset H id b) id' = hget H id' := by
  induction H with
  | nil => exact hget_cons_ne _ _ (Ne.symm h)
  | cons p t ih =>
    obtain ⟨i, c⟩ := p
    rcases Nat.lt_trichotomy i id with h1 | h1 | h1
    · rw [hset_lt _ _ _ h1, hget_cons_ne _ _ (Ne.symm h)]
    · subst h1; rw [hset_eq, hget_cons_ne _ _ (Ne.symm h), hget_cons_ne _ _ (Ne.symm h)]
    · rw [hset_gt _ _ _ h1]
      by_cases hi : i = id'
      · subst hi; rw [hget_cons_self, hget_cons_self]
      · rw [hget_cons_ne _ _ hi, hget_cons_ne _ _ hi, ih]

theorem hset_comm (H : Heap) {i j : Nat} (b c : Option Blk) (h : i ≠ j) : hset (hset H i b) j c = hset (hset H j c) i b := by
  induction H with
  | nil =>
    rcases Nat.lt_or_gt_of_ne h with h1 | h1
    · show hset [(i, b)] j c = hset [(j, c)] i b
      rw [hset_lt _ _ _ h1, hset_gt _ _ _ h1]; rfl
    · show hset [(i, b)] j c = hset [(j, c)] i b
      rw [hset_gt _ _ _ h1, hset_lt _ _ _ h1]; rfl
  | cons p t ih =>
    obtain ⟨k, d⟩ := p
    rcases Nat.lt_trichotomy k i with h1 | h1 | h1 <;> rcases Nat.lt_trichotomy k j with h2 | h2 | h2
    · rw [hset_lt _ _ _ h1, hset_lt _ _ _ h2]
      rcases Nat.lt_or_gt_of_ne h with h3 | h3
      · rw [hset_lt _ _ _ h3, hset_gt _ _ _ h3, hset_lt _ _ _ h1]
      · rw [hset_gt _ _ _ h3, hset_lt _ _ _ h3, hset_lt _ _ _ h2]
    · subst h2
      rw [hset_lt _ _ _ h1, hset_eq, hset_gt _ _ _ h1, hset_eq, hset_lt _ _ _ h1]
    · rw [hset_lt _ _ _ h1, hset_gt _ _ _ h2, hset_gt _ _ _ (by omega), hset_gt _ _ _ h2, hset_lt _ _ _ h1]
    · subst h1
      rw [hset_eq, hset_lt _ _ _ h2, hset_lt _ _ _ h2, hset_gt _ _ _ h2, hset_eq]
    · omega
    · subst h1
      rw [hset_eq, hset_gt _ _ _ h2, hset_gt _ _ _ h2, hset_eq]
    · rw [hset_gt _ _ _ h1, hset_lt _ _ _ h2, hset_lt _ _ _ h2, hset_gt _ _ _ (by omega), hset_gt _ _ _ h1]
    · subst h2
      rw [hset_gt _ _ _ h1, hset_eq, hset_eq, hset_gt _ _ _ h1]
    · rw [hset_gt _ _ _ h1, hset_gt _ _ _ h2, hset_gt _ _ _ h2, hset_gt _ _ _ h1, ih]

theorem hget_hins_self (H : Heap) (id : Nat) (b : Blk) : hget (hins H id b) id = some b := hget_hset_self H id (some b)
theorem hget_hins_ne (H : Heap) {id id' : Nat} (b : Blk) (h : id' ≠ id) : hget (hins H id b) id' = hget H id' := hget_hset_ne H (some b) h
theorem hget_hdel_self (H : Heap) (id : Nat) : hget (hdel H id) id = none := hget_hset_self H id none
theorem hget_hdel_ne (H : Heap) {id id' : Nat} (h : id' ≠ id) : hget (hdel H id) id' = hget H id' := hget_hset_ne H none h

theorem hget_hbelow (n : Nat) (H : Heap) (id : Nat) : hget (hbelow n H) id = if id < n then hget H id else none := by
  induction H with
  | nil => simp [hbelow, hget]
  | cons p t ih =>
    obtain ⟨i, c⟩ := p
    simp only [hbelow]
    split
    · rename_i h1
      have hi : i < n := by simpa using h1
      by_cases e : i = id
      · subst e; rw [hget_cons_self, hget_cons_self, if_pos hi]
      · rw [hget_cons_ne _ _ e, hget_cons_ne _ _ e, ih]
    · rename_i h1
      have hi : ¬ i < n := by
        have : ¬ (Nat.blt i n = true) := by rw [h1]; simp
        simpa using this
      rw [ih]
      by_cases e : i = id
      · subst e; rw [if_neg hi, if_neg hi]
      · rw [hget_cons_ne _ _ e]

end Go.Proofs.Abs
