/- Each operation that looks at values, or loads: what it yields. -/
import Derived.Test.YtnlllfokomenfaaGreatDoorE4
import Derived.Laws.StructEq
import Derived.Laws.Tables
namespace Go.Proofs.Abs
open Go

def SlotsRel (w : World) (I : Nat → Prop) (α : Nat → Option Nat) (s : Tr) (tmps : Array Value) : Prop :=
  ∀ t v, s.get t = some v → ∃ y, tmps[t]? = some y ∧ Rep w I α v y

section
variable {P : Program} {G : Glob} {call : Caller} {w : World} {I : Nat → Prop} {α : Nat → Option Nat} {H : Heap} {rid nx : Nat}

theorem rep_ev {s : Tr} {a : Act} {x : Operand} {v : AV} (hs : SlotsRel w I α s a.tmps) (h : evA s x = some v) : Rep w I α v (a.eval x) := by
  cases x with
  | tmp t =>
    obtain ⟨y, h1, h2⟩ := hs t v h
    simp [Act.eval, h1]; exact h2
  | const c => exact rep_ofValue h
  | global g => simp [evA] at h; subst h; exact .gptr g 0
  | func f => simp [evA] at h; subst h; exact Rep.func_iff.2 ⟨#[], #[], rfl, by simpa using RepL.nil, by simpa using RepL.nil⟩

theorem rep_mapOp {s : Tr} {a : Act} (hs : SlotsRel w I α s a.tmps) : ∀ {l : List Operand} {vs : List AV}, mapOp (evA s) l = some vs → RepL w I α vs (l.map a.eval)
  | [], vs, h => by simp [mapOp] at h; subst h; exact .nil
  | x :: l, vs, h => by
    simp only [mapOp] at h
    split at h
    · rename_i v hv
      simp only [Option.map_eq_some_iff] at h
      obtain ⟨us, h1, rfl⟩ := h
      exact .cons (rep_ev hs hv) (rep_mapOp hs h1)
    · simp at h

def ImplV (P : Program) (G : Glob) (call : Caller) (w : World) (I : Nat → Prop) (α : Nat → Option Nat) (H : Heap) (rid nx : Nat) (s : Sem Value) (e : Eff) : Prop :=
  Impl P G call w I α H rid nx ((s.run P w).andThen fun v w' => .ok (.value v) w') e
def ImplU (P : Program) (G : Glob) (call : Caller) (w : World) (I : Nat → Prop) (α : Nat → Option Nat) (H : Heap) (rid nx : Nat) (s : Sem Unit) (e : Eff) : Prop :=
  Impl P G call w I α H rid nx ((s.run P w).andThen fun _ w' => .ok .skip w') e

theorem implV_val {s : Sem Value} {v : AV} {v' : Value} (c : Ctx P G call w I α H rid nx) (hm : s.run P w = .ok v' w) (h : Rep w I α v v') : ImplV P G call w I α H rid nx s (.val v) :=
  impl_val c (by rw [hm]; rfl) h

theorem implV_valO {s : Sem Value} {o : Option AV} {e : Eff} (c : Ctx P G call w I α H rid nx) (he : valO o = some e) (h : ∀ v, o = some v → ∃ v', s.run P w = .ok v' w ∧ Rep w I α v v') :
    ImplV P G call w I α H rid nx s e := by
  cases o with
  | none => simp [valO] at he
  | some v =>
    simp [valO] at he; subst he
    obtain ⟨v', h1, h2⟩ := h v rfl
    exact implV_val c h1 h2

/-! ### Integers -/

theorem wrapA_eq (k : IntKind) (n : Int) : wrapA k n = k.wrap n := by
  cases k <;> cases n <;> simp only [wrapA]
  · split
    · rename_i m h
      have h := Nat.le_of_ble_eq_true h
      rw [IntWalk.i64_in _ ⟨by simp only [Int.ofNat_eq_natCast]; omega, by simp only [Int.ofNat_eq_natCast]; omega⟩]
    · rfl
  · split
    · rename_i m h
      have h := Nat.le_of_ble_eq_true h
      rw [IntWalk.i64_in _ ⟨by simp only [Int.negSucc_eq]; omega, by simp only [Int.negSucc_eq]; omega⟩]
    · rfl
  · split
    · rename_i m h
      have h := Nat.le_of_ble_eq_true h
      rw [IntWalk.u8_in _ ⟨by simp only [Int.ofNat_eq_natCast]; omega, by simp only [Int.ofNat_eq_natCast]; omega⟩]
    · rfl
  · split
    · rename_i m h
      have h := Nat.le_of_ble_eq_true h
      rw [IntWalk.u32_in _ ⟨by simp only [Int.ofNat_eq_natCast]; omega, by simp only [Int.ofNat_eq_natCast]; omega⟩]
    · rfl
  · split
    · rename_i m h
      have h := Nat.le_of_ble_eq_true h
      rw [IntWalk.u64_in _ ⟨by simp only [Int.ofNat_eq_natCast]; omega, by simp only [Int.ofNat_eq_natCast]; omega⟩]
    · rfl

theorem beqInt_eq (a b : Int) : beqInt a b = (a == b) := by
  cases a <;> cases b <;> simp [beqInt] <;> (rw [Bool.eq_iff_iff]; simp; try omega)
theorem ltInt_eq (a b : Int) : ltInt a b = decide (a < b) := by
  cases a <;> cases b <;> simp only [ltInt] <;> rw [Bool.eq_iff_iff] <;> simp <;> omega

theorem beqBytes_eq : ∀ (a b : List UInt8), beqBytes a b = (a == b)
  | [], [] => rfl
  | [], _ :: _ => rfl
  | _ :: _, [] => rfl
  | a :: x, b :: y => by
    simp only [beqBytes]
    split
    · rename_i h
      have : a = b := UInt8.toNat_inj.1 (beq_iff.1 h)
      subst this
      rw [beqBytes_eq x y]; simp
    · rename_i h
      have : a ≠ b := fun e => beq_false_iff.1 h (by rw [e])
      simp [this]

theorem ltBytes_eq : ∀ (a b : List UInt8), ltBytes a b = Op.bytesLess a b
  | x, [] => by cases x <;> simp [ltBytes, Op.bytesLess]
  | [], _ :: _ => by simp [ltBytes, Op.bytesLess]
  | a :: x, b :: y => by
    simp only [ltBytes, Op.bytesLess]
    split
    · rename_i h
      have : a < b := by rw [UInt8.lt_iff_toNat_lt]; simpa using h
      simp [this]
    · rename_i h
      have h1 : ¬ a < b := by
        rw [UInt8.lt_iff_toNat_lt]
        have : ¬ (Nat.blt a.toNat b.toNat = true) := by rw [h]; simp
        simpa using this
      split
      · rename_i h2
        have : a = b := UInt8.toNat_inj.1 (beq_iff.1 h2)
        subst this
        rw [ltBytes_eq x y]; simp
      · rename_i h2
        have : a ≠ b := fun e => beq_false_iff.1 h2 (by rw [e])
        simp [h1, this]


/-! ### Equality -/

theorem run_eqFields {n m : Nat} (ih : ∀ (t : TypeId) (x y : AV) (x' y' : Value) (r : Bool), Rep w I α x x' → Rep w I α y y' → equalA P n t x y = some r → (Op.equalIn m t x' y').run P w = .ok r w) :
    ∀ (fs : List Field) (xs ys : List AV) (xs' ys' : List Value) (r : Bool), RepL w I α xs xs' → RepL w I α ys ys' → equalF P (equalA P n) fs xs ys = some r →
      (Op.eqFields m xs'.toArray ys'.toArray fs).run P w = .ok r w
  | [], _, _, _, _, r, _, _, h => by simp [equalF] at h; subst h; rfl
  | f :: fs, xs, ys, xs', ys', r, hx, hy, h => by
    simp only [equalF] at h
    split at h
    · rename_i hn
      have hn : f.name = "_" := by simpa using hn
      simp only [Op.eqFields, hn, ne_eq, not_true_eq_false, if_false]
      exact run_eqFields ih fs xs ys xs' ys' r hx hy h
    · rename_i hn
      have hn : f.name ≠ "_" := by simpa using hn
      split at h
      · rename_i a b ha hb
        obtain ⟨a', ra, ha'⟩ := hx.part (P := P) ha
        obtain ⟨b', rb, hb'⟩ := hy.part (P := P) hb
        simp only [Op.eqFields, ne_eq, hn, not_false_eq_true, if_true, Sem.run_bind, ra, rb, Result.andThen_ok]
        split at h
        · rename_i he
          rw [ih _ _ _ _ _ _ ha' hb' he]
          simp only [Result.andThen_ok, Bool.not_true, Bool.false_eq_true, if_false]
          exact run_eqFields ih fs xs ys xs' ys' r hx hy h
        · rename_i he
          rw [ih _ _ _ _ _ _ ha' hb' he]
          simp at h; subst h
          rfl
        · simp at h
      · simp at h

theorem run_equalA : ∀ (n m : Nat), n ≤ m → ∀ (t : TypeId) (x y : AV) (x' y' : Value) (r : Bool), Rep w I α x x' → Rep w I α y y' → equalA P n t x y = some r → (Op.equalIn m t x' y').run P w = .ok r w
  | 0, _, _, _, _, _, _, _, _, _, _, h => by simp [equalA] at h
  | n + 1, 0, hn, _, _, _, _, _, _, _, _, _ => by omega
  | n + 1, m + 1, hn, t, x, y, x', y', r, hx, hy, h => by
    unfold equalA at h
    split at h
    case h_4 fs xs ys ht =>
      obtain ⟨xs', rfl, hx'⟩ := Rep.agg_iff.1 hx
      obtain ⟨ys', rfl, hy'⟩ := Rep.agg_iff.1 hy
      split at h
      · simp at h
      · rename_i hst
        have hf : P.fieldsOf t = fs := by simp [Program.fieldsOf, ht]
        rw [run_equalIn_struct w m t xs' ys' (by rw [hf]; exact ht) (by simpa using hst), hf]
        exact run_eqFields (run_equalA n m (by omega)) fs.toList xs ys xs'.toList ys'.toList r hx' hy' h
    case h_2 ht =>
      cases hx; cases hy
      split at h
      · rename_i e; subst e; simp only [Option.some.injEq] at h; subst h
        simp [Op.equalIn, run_underlying' ht, beqInt_eq]
      · simp at h
    case h_3 ht =>
      cases hx with
      | str _ b hb => cases hy with
        | str _ b' hb' =>
          simp only [Option.some.injEq] at h; subst h
          rw [run_equalIn_string w m t b b' ht, ByteArray.toList_eq, ByteArray.toList_eq, hb, hb', beqBytes_eq]
    all_goals first
      | (rename_i ht; cases hx; cases hy; simp only [Option.some.injEq] at h; subst h; simp [Op.equalIn, run_underlying' ht]; done)
      | (rename_i ht
         cases hx with
         | fsl _ _ a len cap sz b base g hl hc hf ha hI hs hg hr =>
           cases hy; simp only [Option.some.injEq] at h; subst h
           subst ha
           simp [Op.equalIn, run_underlying' ht]; done)
      | (simp at h; done)

end
end Go.Proofs.Abs
