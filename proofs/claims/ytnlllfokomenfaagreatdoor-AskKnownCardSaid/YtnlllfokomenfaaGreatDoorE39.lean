/- Loops: states by number, seen anew behind each round. -/
import Derived.Test.YtnlllfokomenfaaGreatDoorE38
namespace Go.Proofs.Abs
open Go

/-- A value under new numbers, and the one that was seen: what must be so. -/
def renOk (lk : List (Nat × Nat)) : AV → AV → Prop
  | .ptr i o, u => match u with
    | .ptr j p => lookN lk i = some j ∧ o = p
    | _ => False
  | .rsl w i o l z, u => match u with
    | .rsl w' j o' l' z' => w = w' ∧ lookN lk i = some j ∧ o = o' ∧ l = l' ∧ z = z'
    | _ => False
  | .map i, u => match u with
    | .map j => lookN lk i = some j
    | _ => False
  | v, u => u = v ∧ closedA v = true

theorem renOk_sound {lk : List (Nat × Nat)} {v u : AV} (h : renOk lk v u) : RenV lk v u := by
  unfold renOk at h
  split at h
  · split at h
    · obtain ⟨h1, rfl⟩ := h; exact .ptr _ _ _ h1
    · exact h.elim
  · split at h
    · obtain ⟨rfl, h1, rfl, rfl, rfl⟩ := h; exact .rsl _ _ _ _ _ _ h1
    · exact h.elim
  · split at h
    · exact .map _ _ h
    · exact h.elim
  · obtain ⟨rfl, hc⟩ := h; exact .same _ hc

/-- Cells of a block: either as they stand, or one by one. -/
def renCells (lk : List (Nat × Nat)) : List AV → List AV → Prop
  | [], [] => True
  | a :: t, b :: u => renOk lk a b ∧ renCells lk t u
  | _, _ => False
/-- How a block is taken: whole, closed; cell by cell; in two parts. -/
inductive Mode where
  | whole
  | each
  | split (pre suf old : List AV)
def renBlk (lk : List (Nat × Nat)) (mode : Mode) : Blk → Blk → Prop
  | .cells l, .cells l' => match mode with
    | .whole => l' = l ∧ closedAll l = true
    | .each => renCells lk l l'
    | .split pre suf old => (l = pre ++ suf ∧ l' = pre ++ old) ∧ (closedAll pre = true ∧ renCells lk suf old)
  | .siter s p, .siter s' p' => s = s' ∧ p = p'
  | .miter m a b c, .miter m' a' b' c' => a = a' ∧ b = b' ∧ c = c' ∧ lookN lk m = some m'
  | _, _ => False

theorem renCells_sound {lk : List (Nat × Nat)} : ∀ {l l' : List AV}, renCells lk l l' → RenL lk l l'
  | [], [], _ => trivial
  | _a :: _t, _b :: _u, h => ⟨renOk_sound h.1, renCells_sound h.2⟩
  | [], _ :: _, h => h.elim
  | _ :: _, [], h => h.elim
theorem RenL.append' {lk : List (Nat × Nat)} : ∀ {a b c d : List AV}, RenL lk a b → RenL lk c d → RenL lk (a ++ c) (b ++ d)
  | [], [], _, _, _, h => h
  | _ :: _, _ :: _, _, _, h1, h2 => ⟨h1.1, RenL.append' h1.2 h2⟩
  | [], _ :: _, _, _, h, _ => h.elim
  | _ :: _, [], _, _, h, _ => h.elim
theorem renBlk_sound {lk : List (Nat × Nat)} {wh : Mode} {b c : Blk} (h : renBlk lk wh b c) : RenB lk b c := by
  cases b with
  | cells l => cases c with
    | cells l' =>
      simp only [renBlk] at h
      split at h
      · obtain ⟨rfl, hc⟩ := h; exact RenL.same lk hc
      · exact renCells_sound h
      · obtain ⟨⟨rfl, rfl⟩, hc, h⟩ := h
        exact RenL.append' (RenL.same lk hc) (renCells_sound h)
    | _ => exact h.elim
  | siter s p => cases c with
    | siter s' p' => exact h
    | _ => exact h.elim
  | miter m a b c' => cases c with
    | miter m' a' b' c' => exact h
    | _ => exact h.elim
  | mapb c s l => exact h.elim

/-- A new heap: number, block, is it taken whole. -/
abbrev Heap2 := List (Nat × Blk × Mode)
def Heap2.heap : Heap2 → Heap
  | [] => []
  | (i, b, _) :: t => (i, some b) :: Heap2.heap t

def seeSlots (lk : List (Nat × Nat)) (g : Nat → Option AV) : List (Nat × AV) → Prop
  | [] => True
  | (k, v) :: t => (match g k with
    | some u => renOk lk v u
    | none => False) ∧ seeSlots lk g t
def seeWhole (g : Nat → Option AV) : List (Nat × AV) → Prop
  | [] => True
  | (k, v) :: t => (match g k with
    | some u => u = v ∧ closedA v = true
    | none => False) ∧ seeWhole g t
def seeHeap (lk : List (Nat × Nat)) (g : Nat → Option Blk) : Heap2 → Prop
  | [] => True
  | (i, b, wh) :: t => (match lookN lk i with
    | some j => match g j with
      | some c => renBlk lk wh b c
      | none => False
    | none => False) ∧ seeHeap lk g t

/-- How a state is named anew. -/
structure View where
  slots : List (Nat × AV)
  refs : List (Nat × AV)
  heap : Heap2
  nx : Nat
  n : Nat
noncomputable def View.st (V : View) : St := ⟨sl (V.slots ++ V.refs), V.heap.heap, V.nx, V.n⟩

def noDup : List Nat → Bool
  | [] => true
  | a :: t => !memN t a && noDup t
def lkOk (nx0 nx : Nat) (lk : List (Nat × Nat)) : Bool := noDup (lk.map (·.2)) && (allLt (lk.map (·.1)) nx && Nat.ble nx0 nx)
def lowLk (lk : List (Nat × Nat)) : Nat → Bool
  | 0 => true
  | n + 1 => (match lookN lk n with
    | some j => Nat.beq j n
    | none => false) && lowLk lk n

/-- What is to be shown where a state is seen anew. -/
def seesK (nx0 : Nat) (lk : List (Nat × Nat)) (V : View) (s : St) : Prop :=
  oblB (lkOk nx0 V.nx lk && (lowLk lk nx0 && Nat.beq V.n s.n)) (seeWhole s.slots.get V.slots ∧ (seeSlots lk s.slots.get V.refs ∧ seeHeap lk (hget s.heap) V.heap))

/-- A state that says less. -/
def Says2 (G : Glob) (nx0 : Nat) (s s2 : St) : Prop :=
  ∀ w0 I0 α0 H0 D a w, (∀ id, nx0 ≤ id → α0 id = none) → CR G w0 I0 α0 H0 nx0 D s a w → CR G w0 I0 α0 H0 nx0 D s2 a w

theorem noDup_iff : ∀ {l : List Nat}, noDup l = true → l.Nodup
  | [], _ => .nil
  | a :: t, h => by
    simp only [noDup, Bool.and_eq_true, Bool.not_eq_true'] at h
    refine List.nodup_cons.2 ⟨fun hm => ?_, noDup_iff h.2⟩
    rw [memN_iff.2 hm] at h; exact Bool.noConfusion h.1
theorem lowLk_iff {lk : List (Nat × Nat)} : ∀ {n : Nat}, lowLk lk n = true → ∀ i, i < n → lookN lk i = some i
  | 0, _ => by simp
  | n + 1, h => fun i hi => by
    simp only [lowLk, Bool.and_eq_true] at h
    rcases Nat.lt_or_ge i n with h' | h'
    · exact lowLk_iff h.2 i h'
    · have : i = n := by omega
      subst this
      have h1 := h.1
      split at h1
      · rename_i j hj; rw [hj, beq_iff.1 h1]
      · cases h1

theorem heap2_mem {H2 : Heap2} {i : Nat} {b : Blk} (h : hget H2.heap i = some b) : ∃ wh, (i, b, wh) ∈ H2 := by
  induction H2 with
  | nil => simp [Heap2.heap, hget] at h
  | cons p t ih =>
    obtain ⟨j, c, wh⟩ := p
    simp only [Heap2.heap, hget] at h
    split at h
    · rename_i he
      have he := beq_iff.1 he
      simp only [Option.some.injEq] at h
      subst he; subst h
      exact ⟨wh, by simp⟩
    · obtain ⟨wh, hm⟩ := ih h
      exact ⟨wh, by simp [hm]⟩
theorem seeSlots_at {lk : List (Nat × Nat)} {g : Nat → Option AV} : ∀ {L : List (Nat × AV)}, seeSlots lk g L → ∀ k v, (k, v) ∈ L → ∃ u, g k = some u ∧ RenV lk v u
  | [], _, _, _, h => by cases h
  | (k', v') :: t, h, k, v, hm => by
    rcases List.mem_cons.1 hm with e | hm
    · cases e
      have h1 := h.1
      split at h1
      · rename_i u hu; exact ⟨u, hu, renOk_sound h1⟩
      · exact h1.elim
    · exact seeSlots_at h.2 k v hm
theorem seeWhole_at {lk : List (Nat × Nat)} {g : Nat → Option AV} : ∀ {L : List (Nat × AV)}, seeWhole g L → ∀ k v, (k, v) ∈ L → ∃ u, g k = some u ∧ RenV lk v u
  | [], _, _, _, h => by cases h
  | (k', v') :: t, h, k, v, hm => by
    rcases List.mem_cons.1 hm with e | hm
    · cases e
      have h1 := h.1
      split at h1
      · rename_i u hu
        obtain ⟨rfl, hc⟩ := h1
        exact ⟨u, hu, .same _ hc⟩
      · exact h1.elim
    · exact seeWhole_at h.2 k v hm
theorem seeHeap_at {lk : List (Nat × Nat)} {g : Nat → Option Blk} : ∀ {H2 : Heap2}, seeHeap lk g H2 → ∀ i b wh, (i, b, wh) ∈ H2 → ∃ j b1, lookN lk i = some j ∧ g j = some b1 ∧ RenB lk b b1
  | [], _, _, _, _, h => by cases h
  | (i', b', wh') :: t, h, i, b, wh, hm => by
    rcases List.mem_cons.1 hm with e | hm
    · cases e
      have h1 := h.1
      split at h1
      · rename_i j hj
        split at h1
        · rename_i c hc; exact ⟨j, c, hj, hc, renBlk_sound h1⟩
        · exact h1.elim
      · exact h1.elim
    · exact seeHeap_at h.2 i b wh hm

theorem seesK_says {G : Glob} {nx0 : Nat} {lk : List (Nat × Nat)} {V : View} {s : St} (hg : ∀ g l, G g = some l → closedAll l = true) (h : seesK nx0 lk V s) : Says2 G nx0 s V.st := by
  obtain ⟨hb, h0, h1, h2⟩ := oblB_iff.1 h
  simp only [lkOk, Bool.and_eq_true] at hb
  obtain ⟨⟨b1, b2, b3⟩, b4, b5⟩ := hb
  intro w0 I0 α0 H0 D a w hα hr
  refine hr.turnIn lk hg hα (beq_iff.1 b5) (fun k v hv => by
      rcases List.mem_append.1 (sl_get hv) with hm | hm
      · exact seeWhole_at h0 k v hm
      · exact seeSlots_at h1 k v hm) (fun i b hi => ?_) (noDup_iff b1) (fun i hi => ?_) (lowLk_iff b4) (Nat.le_of_ble_eq_true b3)
  · obtain ⟨wh, hm⟩ := heap2_mem hi
    exact seeHeap_at h2 i b wh hm
  · cases hl : lookN lk i with
    | none => rfl
    | some j =>
      have := allLt_iff b2 i (List.mem_map.2 ⟨_, lookN_mem hl, rfl⟩)
      have hi : V.nx ≤ i := hi
      omega

/-! ### Rows that are let go -/

def frzSlots (m : Nat) (h : Heap) (g : Nat → Option AV) : List (Nat × AV) → Prop
  | [] => True
  | (k, v) :: t => (match g k with
    | some u => Frz m h u v
    | none => False) ∧ frzSlots m h g t
def frzHeap (m : Nat) (h : Heap) : Heap2 → Prop
  | [] => True
  | (i, b, _) :: t => (oblB (Nat.blt i m) (match hget h i with
    | some c => FrzB m h c b
    | none => False)) ∧ frzHeap m h t
/-- What is to be shown where rows are let go. -/
def letsK (m : Nat) (V : View) (s : St) : Prop := oblB (Nat.beq V.n s.n && Nat.beq V.nx s.nx) (frzSlots m s.heap s.slots.get (V.slots ++ V.refs) ∧ frzHeap m s.heap V.heap)

theorem frzSlots_at {m : Nat} {h : Heap} {g : Nat → Option AV} : ∀ {L : List (Nat × AV)}, frzSlots m h g L → ∀ k v, (k, v) ∈ L → ∃ u, g k = some u ∧ Frz m h u v
  | [], _, _, _, h => by cases h
  | (k', v') :: t, h, k, v, hm => by
    rcases List.mem_cons.1 hm with e | hm
    · cases e
      have h1 := h.1
      split at h1
      · rename_i u hu; exact ⟨u, hu, h1⟩
      · exact h1.elim
    · exact frzSlots_at h.2 k v hm
theorem frzHeap_at {m : Nat} {h : Heap} : ∀ {H2 : Heap2}, frzHeap m h H2 → ∀ i b wh, (i, b, wh) ∈ H2 → i < m ∧ ∃ b1, hget h i = some b1 ∧ FrzB m h b1 b
  | [], _, _, _, _, h => by cases h
  | (i', b', wh') :: t, h, i, b, wh, hm => by
    rcases List.mem_cons.1 hm with e | hm
    · cases e
      obtain ⟨hb, h1⟩ := oblB_iff.1 h.1
      refine ⟨blt_iff.1 hb, ?_⟩
      split at h1
      · rename_i c hc; exact ⟨c, hc, h1⟩
      · exact h1.elim
    · exact frzHeap_at h.2 i b wh hm

theorem letsK_says {G : Glob} {nx0 m : Nat} {V : View} {s : St} (h : letsK m V s) : Says2 G nx0 s V.st := by
  obtain ⟨hb, h1, h2⟩ := oblB_iff.1 h
  rw [Bool.and_eq_true] at hb
  intro w0 I0 α0 H0 D a w _ hr
  refine hr.freeze m (beq_iff.1 hb.1) (beq_iff.1 hb.2) (fun k v hv => frzSlots_at h1 k v (sl_get hv)) fun i b hi => ?_
  obtain ⟨wh, hm⟩ := heap2_mem hi
  exact frzHeap_at h2 i b wh hm

theorem Says2.trans {G : Glob} {nx0 : Nat} {s s1 s2 : St} (h1 : Says2 G nx0 s s1) (h2 : Says2 G nx0 s1 s2) : Says2 G nx0 s s2 := fun w0 I0 α0 H0 D a w hα hr => h2 w0 I0 α0 H0 D a w hα (h1 w0 I0 α0 H0 D a w hα hr)
theorem Says2.refl {G : Glob} {nx0 : Nat} {s : St} : Says2 G nx0 s s := fun _ _ _ _ _ _ _ _ h => h

section
variable {P : Program} {G : Glob} {nx0 : Nat} {s s2 : St} {Q Q' : AExit → St → Prop}

theorem AWp.says {c : Code} (hs : Says2 G nx0 s s2) (h : AWp P G nx0 c s2 Q) : AWp P G nx0 c s Q :=
  ⟨fun w0 I0 α0 H0 D a w hα hr => h.out w0 I0 α0 H0 D a w hα (hs w0 I0 α0 H0 D a w hα hr)⟩
theorem AWp.saysEnd {c : Code} (h : AWp P G nx0 c s Q) (hq : ∀ e s', Q e s' → ∃ s2, Says2 G nx0 s' s2 ∧ Q' e s2) : AWp P G nx0 c s Q' :=
  ⟨fun w0 I0 α0 H0 D a w hα hr => wp_mono (h.out w0 I0 α0 H0 D a w hα hr) fun _ _ _ ⟨x, s', h1, h2, h3⟩ => by
    obtain ⟨s2, k1, k2⟩ := hq x s' h3
    exact ⟨x, s2, h1, k1 w0 I0 α0 H0 D _ _ hα h2, k2⟩⟩

/-- A loop of at most k rounds more, through states by number. -/
theorem AWp.loopN {body : Code} (S : Nat → St) : ∀ (k j : Nat), (∀ i, j ≤ i → i ≤ j + k → AWp P G nx0 body (S i) (fun e s' => (e = .normal ∧ i < j + k ∧ Says2 G nx0 s' (S (i + 1))) ∨ (e ≠ .normal ∧ ∃ s2, Says2 G nx0 s' s2 ∧ Q e s2))) →
    AWp P G nx0 (.loop body) (S j) Q := fun k j h => by
  refine .loop (k + 1) ?_
  induction k generalizing j with
  | zero =>
    refine (h j (Nat.le_refl _) (Nat.le_refl _)).saysEnd fun e s' hq => ?_
    rcases hq with ⟨_, h1, _⟩ | ⟨hne, s2, h1, h2⟩
    · omega
    · refine ⟨s2, h1, ?_⟩
      cases e with
      | normal => exact absurd rfl hne
      | exit i => exact h2
      | ret => exact h2
  | succ k ih =>
    refine (h j (Nat.le_refl _) (by omega)).saysEnd fun e s' hq => ?_
    rcases hq with ⟨rfl, h1, h2⟩ | ⟨hne, s2, h1, h2⟩
    · exact ⟨_, h2, ih (j + 1) fun i h3 h4 => (h i (by omega) (by omega)).mono fun e s'' hq => by
        rcases hq with ⟨h5, h6, h7⟩ | h5
        · exact .inl ⟨h5, by omega, h7⟩
        · exact .inr h5⟩
    · refine ⟨s2, h1, ?_⟩
      cases e with
      | normal => exact absurd rfl hne
      | exit i => exact h2
      | ret => exact h2

end
/-- The end of a round: on, with what is seen anew; or out. -/
def roundK (nx0 : Nat) (lk : List (Nat × Nat)) (V : View) (lk' : List (Nat × Nat)) (F : View) (go : Bool) (Q : AExit → St → Prop) : AExit → St → Prop := fun e s => match e with
  | .normal => oblB go (seesK nx0 lk V s)
  | e => seesK nx0 lk' F s ∧ Q e F.st

/-- A loop through views by number. -/
theorem AWp.loopV {P : Program} {O : Opts} {n : Nat} {nx0 : Nat} {Q : AExit → St → Prop} {body : Code} (B : Base P O n) (A : Nat → Aid) (V F : Nat → View) (lk lk' : Nat → List (Nat × Nat)) (k j : Nat) (hA : ∀ i, AidOk P O (A i)) (hls : ∀ i, LsOk P O.glob nx0 (A i) body)
    (h : ∀ i, j ≤ i → i ≤ j + k → wpK P O n (A i) body (V i).st (roundK nx0 (lk i) (V (i + 1)) (lk' i) (F i) (Nat.blt i (j + k)) Q)) : AWp P O.glob nx0 (.loop body) (V j).st Q := by
  refine AWp.loopN (fun i => (V i).st) k j fun i h1 h2 => (wpK_ok B (hA i) body _ _ (hls i) (h i h1 h2)).mono fun e s hq => ?_
  cases e with
  | normal =>
    obtain ⟨hb, hs⟩ := oblB_iff.1 hq
    exact .inl ⟨rfl, blt_iff.1 hb, seesK_says B.glob hs⟩
  | exit x => exact .inr ⟨(fun h => by cases h), (F i).st, seesK_says B.glob hq.1, hq.2⟩
  | ret => exact .inr ⟨(fun h => by cases h), (F i).st, seesK_says B.glob hq.1, hq.2⟩

/-- The same, where rows are let go behind each round. -/
theorem AWp.loopM {P : Program} {O : Opts} {n : Nat} {nx0 : Nat} {Q : AExit → St → Prop} {body : Code} (B : Base P O n) (A : Nat → Aid) (V M F : Nat → View) (lk lk' : Nat → List (Nat × Nat)) (k j : Nat) (hA : ∀ i, AidOk P O (A i)) (hls : ∀ i, LsOk P O.glob nx0 (A i) body)
    (hM : ∀ i, j ≤ i → i < j + k → Says2 O.glob nx0 (M i).st (V (i + 1)).st)
    (h : ∀ i, j ≤ i → i ≤ j + k → wpK P O n (A i) body (V i).st (roundK nx0 (lk i) (M i) (lk' i) (F i) (Nat.blt i (j + k)) Q)) : AWp P O.glob nx0 (.loop body) (V j).st Q := by
  refine AWp.loopN (fun i => (V i).st) k j fun i h1 h2 => (wpK_ok B (hA i) body _ _ (hls i) (h i h1 h2)).mono fun e s hq => ?_
  cases e with
  | normal =>
    obtain ⟨hb, hs⟩ := oblB_iff.1 hq
    exact .inl ⟨rfl, blt_iff.1 hb, (seesK_says B.glob hs).trans (hM i h1 (blt_iff.1 hb))⟩
  | exit x => exact .inr ⟨(fun h => by cases h), (F i).st, seesK_says B.glob hq.1, hq.2⟩
  | ret => exact .inr ⟨(fun h => by cases h), (F i).st, seesK_says B.glob hq.1, hq.2⟩

/-- Help by one loop, by one hint. -/
def oneL (r0 : Nat) (L : LoopS) : Nat → Option LoopS := fun r => match Nat.beq r r0 with
  | true => some L
  | false => none
def oneH (r0 i0 : Nat) (h : Hint) : Nat → Nat → Option Hint := fun r i => match Nat.beq r r0 && Nat.beq i i0 with
  | true => some h
  | false => none
def noCx : Caller := fun _ _ _ _ _ => none
noncomputable def aidOf (hint : Nat → Nat → Option Hint) (ls : Nat → Option LoopS) : Aid := ⟨hint, ls, noCx⟩
theorem aidOf_ok {P : Program} {O : Opts} {hint : Nat → Nat → Option Hint} {ls : Nat → Option LoopS} (h : ∀ f args v, O.summ f args = some v → SemCall P O.glob f args v) : AidOk P O (aidOf hint ls) := ⟨noCall_ok, h⟩
theorem LsOk.none {P : Program} {G : Glob} {nx0 : Nat} {c : Code} {hint : Nat → Nat → Option Hint} : LsOk P G nx0 (aidOf hint (fun _ => Option.none)) c := fun r L hL => by cases hL
theorem LsOk.one {P : Program} {G : Glob} {nx0 r0 : Nat} {L0 : LoopS} {c b : Code} {hint : Nat → Nat → Option Hint} (hat : loopsAt c r0 = [b]) (h : ∀ s Q, L0 s Q → AWp P G nx0 (.loop b) s Q) : LsOk P G nx0 (aidOf hint (oneL r0 L0)) c := by
  intro r L hL x hx s Q hs
  simp only [aidOf, oneL] at hL
  split at hL
  · rename_i hr
    have hr := beq_iff.1 hr
    simp only [Option.some.injEq] at hL
    rw [hr, hat, List.mem_singleton] at hx
    rw [hx]
    rw [← hL] at hs
    exact h s Q hs
  · cases hL

/-- A function's code; the body of one of its loops. -/
def fnCode (P : Program) (f : FuncId) : Code := match P.funcs[f]? with
  | some fn => match fn.body with
    | some c => c
    | none => .skip
  | none => .skip
def lpCode (P : Program) (f r : Nat) : Code := match loopsAt (fnCode P f) r with
  | b :: _ => b
  | [] => .skip
theorem fnCode_eq {P : Program} {f : FuncId} {fn : Func} {c : Code} (h1 : P.funcs[f]? = some fn) (h2 : fn.body = some c) : c = fnCode P f := by
  unfold fnCode; rw [h1]; simp only; rw [h2]
theorem fnLs_of {P : Program} {G : Glob} {nx0 : Nat} {A : Aid} {f : FuncId} (h : LsOk P G nx0 A (fnCode P f)) : FnLs P G nx0 A f := fun fn c h1 h2 => by rw [fnCode_eq h1 h2]; exact h
/-- What is seen of an end. -/
noncomputable def obsK (keys ids : List Nat) (Q : AExit → List (Option AV) → List (Option Blk) → Prop) : AExit → St → Prop := fun e s => Q e (keys.map s.slots.get) (ids.map (hget s.heap))

end Go.Proofs.Abs
