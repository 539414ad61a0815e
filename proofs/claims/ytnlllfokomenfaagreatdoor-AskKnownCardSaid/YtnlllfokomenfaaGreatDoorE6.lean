/- Operations on values, loads, new variables. -/
import Derived.Test.YtnlllfokomenfaaGreatDoorE5
namespace Go.Proofs.Abs
open Go

section
variable {P : Program} {G : Glob} {call : Caller} {w : World} {I : Nat → Prop} {α : Nat → Option Nat} {H : Heap} {rid nx : Nat}

theorem run_eql {t : TypeId} {x y : AV} {x' y' : Value} {r : Bool} (hx : Rep w I α x x') (hy : Rep w I α y y') (h : equalA P 16 t x y = some r) :
    (Op.equal t x' y').run P w = .ok r w := run_equalA 16 10000 (by omega) t x y x' y' r hx hy h

theorem bin_int {op : BinOp} {t : TypeId} {xo yo : Operand} {k k' : IntKind} {a b : Int} {v : AV} (h : binA P op t xo yo (.int k a) (.int k' b) = some v) :
    ∃ v', (do eqGuard op t xo yo (.int k a) (.int k' b); binOp op t (.int k a) (.int k' b) : Sem Value).run P w = .ok v' w ∧ Rep w I α v v' := by
  have hg : (eqGuard op t xo yo (.int k a) (.int k' b)).run P w = .ok () w := by cases op <;> simp [eqGuard]
  simp only [Sem.run_bind, hg, Result.andThen_ok]
  cases op
  case shl =>
    simp only [binA, ltInt_eq] at h
    split at h
    · simp at h
    · rename_i hb
      simp at h hb; subst h
      refine ⟨_, ?_, .int _ _⟩
      rw [wrapA_eq]
      simp [binOp, Op.shift, Int.not_lt.2 hb]
  case shr =>
    simp only [binA, ltInt_eq] at h
    split at h
    · simp at h
    · rename_i hb
      simp at h hb; subst h
      refine ⟨_, ?_, .int _ _⟩
      simp [binOp, Op.shift, Int.not_lt.2 hb]
  all_goals
    have hk : k = k' := Decidable.by_contra fun hne => by simp [binA, hne] at h
    subst hk
    simp only [binA, ne_eq, not_true_eq_false, if_false] at h
  case quo =>
    rw [beqInt_eq] at h
    split at h
    · simp at h
    · rename_i hb
      simp at hb h; subst h
      refine ⟨_, ?_, .int _ _⟩
      rw [wrapA_eq]
      simp [binOp, Op.intDiv, hb]
  case rem =>
    rw [beqInt_eq] at h
    split at h
    · simp at h
    · rename_i hb
      simp at hb h; subst h
      refine ⟨_, ?_, .int _ _⟩
      simp [binOp, Op.intDiv, hb]
  case eql => simp only [Option.some.injEq] at h; subst h; exact ⟨_, by simp [binOp, Op.intCmp, beqInt_eq], .bool _⟩
  case neq => simp only [Option.some.injEq] at h; subst h; exact ⟨_, by simp [binOp, Op.intCmp, beqInt_eq]; rfl, .bool _⟩
  case lss => simp only [Option.some.injEq] at h; subst h; exact ⟨_, by simp [binOp, Op.intCmp, ltInt_eq], .bool _⟩
  case leq => simp only [Option.some.injEq] at h; subst h; exact ⟨_, by simp [binOp, Op.intCmp, ltInt_eq]; rw [Bool.eq_iff_iff]; simp, .bool _⟩
  case gtr => simp only [Option.some.injEq] at h; subst h; exact ⟨_, by simp [binOp, Op.intCmp, ltInt_eq], .bool _⟩
  case geq => simp only [Option.some.injEq] at h; subst h; exact ⟨_, by simp [binOp, Op.intCmp, ltInt_eq]; rw [Bool.eq_iff_iff]; simp, .bool _⟩
  all_goals first
    | (simp at h; done)
    | (simp only [Option.some.injEq] at h; subst h; exact ⟨_, by simp [binOp, Op.intArith, Op.intBits, wrapA_eq], .int _ _⟩)

theorem bin_str {op : BinOp} {t : TypeId} {xo yo : Operand} {a b : List UInt8} {a' b' : ByteArray} {v : AV} (ha : a'.data.toList = a) (hb : b'.data.toList = b)
    (h : binA P op t xo yo (.str a) (.str b) = some v) :
    ∃ v', (do eqGuard op t xo yo (.string a') (.string b'); binOp op t (.string a') (.string b') : Sem Value).run P w = .ok v' w ∧ Rep w I α v v' := by
  have hg : (eqGuard op t xo yo (.string a') (.string b')).run P w = .ok () w := by cases op <;> simp [eqGuard]
  simp only [Sem.run_bind, hg, Result.andThen_ok]
  have la : a'.toList = a := by rw [ByteArray.toList_eq, ha]
  have lb : b'.toList = b := by rw [ByteArray.toList_eq, hb]
  have sa : a'.size = a.length := by rw [← ha]; exact Array.length_toList.symm
  have sb : b'.size = b.length := by rw [← hb]; exact Array.length_toList.symm
  cases op <;> simp only [binA] at h
  case add =>
    split at h
    · rename_i hc
      simp only [Option.some.injEq] at h; subst h
      refine ⟨.string (a' ++ b'), ?_, .str _ _ (by rw [ByteArray.data_append, Array.toList_append, ha, hb])⟩
      have hc' := Nat.le_of_ble_eq_true hc
      rw [lenN_eq, lenN_eq] at hc'
      have : ¬ (((a'.size + b'.size : Nat) : Int) > IntKind.i64.max) := by
        have : IntKind.i64.max = 9223372036854775807 := by decide
        rw [this, sa, sb]; omega
      simp only [binOp, Op.stringOp, if_neg this]
      rfl
    · simp at h
  all_goals first
    | (simp at h; done)
    | (simp only [Option.some.injEq] at h; subst h; exact ⟨_, by simp [binOp, Op.stringOp, la, lb, beqBytes_eq, ltBytes_eq] <;> rfl, .bool _⟩)

theorem Rep.int_inv {x : AV} {k : IntKind} {n : Int} (h : Rep w I α x (.int k n)) : x = .int k n := by cases h; rfl
theorem Rep.str_inv {x : AV} {s : ByteArray} (h : Rep w I α x (.string s)) : ∃ l, x = .str l := by cases h; exact ⟨_, rfl⟩
theorem Rep.float_inv {x : AV} {k : FloatKind} {n : Nat} (h : Rep w I α x (.float k n)) : False := by cases h
theorem Rep.complex_inv {x : AV} {k : FloatKind} {n m : Nat} (h : Rep w I α x (.complex k n m)) : False := by cases h
theorem Rep.agg_inv {x : AV} {a : Array Value} (h : Rep w I α x (.agg a)) : ∃ l, x = .agg l := by cases h; exact ⟨_, rfl⟩
theorem Rep.nilIface_inv {x : AV} (h : Rep w I α x .nilIface) : x = .nilIface := by cases h; rfl

theorem run_binOp_eql {t : TypeId} {x y : AV} {x' y' : Value} (hx : Rep w I α x x') (hy : Rep w I α y y')
    (hi : ¬ ((∃ k a, x = .int k a) ∧ (∃ k a, y = .int k a))) (hs : ¬ ((∃ a, x = .str a) ∧ (∃ a, y = .str a))) :
    (binOp .eql t x' y').run P w = ((Op.equal t x' y').run P w).andThen fun b w' => .ok (.bool b) w' := by
  unfold binOp
  split <;> first
    | (exact absurd ⟨⟨_, _, hx.int_inv⟩, ⟨_, _, hy.int_inv⟩⟩ hi)
    | (exact hx.float_inv.elim)
    | (exact hx.complex_inv.elim)
    | (exact absurd ⟨hx.str_inv, hy.str_inv⟩ hs)
    | simp_all
theorem run_binOp_neq {t : TypeId} {x y : AV} {x' y' : Value} (hx : Rep w I α x x') (hy : Rep w I α y y')
    (hi : ¬ ((∃ k a, x = .int k a) ∧ (∃ k a, y = .int k a))) (hs : ¬ ((∃ a, x = .str a) ∧ (∃ a, y = .str a))) :
    (binOp .neq t x' y').run P w = ((Op.equal t x' y').run P w).andThen fun b w' => .ok (.bool (!b)) w' := by
  unfold binOp
  split <;> first
    | (exact absurd ⟨⟨_, _, hx.int_inv⟩, ⟨_, _, hy.int_inv⟩⟩ hi)
    | (exact hx.float_inv.elim)
    | (exact hx.complex_inv.elim)
    | (exact absurd ⟨hx.str_inv, hy.str_inv⟩ hs)
    | simp_all

theorem run_eqGuard_other {op : BinOp} {t : TypeId} {xo yo : Operand} {x y : AV} {x' y' : Value} (hx : Rep w I α x x') (hy : Rep w I α y y')
    (h1 : ¬ ((∃ l, x = .agg l) ∧ (∃ l, y = .agg l))) (h2 : ¬ (x = .nilIface ∧ y = .nilIface)) : (eqGuard op t xo yo x' y').run P w = .ok () w := by
  have key : ∀ op, op = .eql ∨ op = .neq → (eqGuard op t xo yo x' y').run P w = .ok () w := by
    intro op hop
    cases x' with
    | nilIface =>
      have e1 := hx.nilIface_inv
      cases y' with
      | nilIface => exact absurd ⟨e1, hy.nilIface_inv⟩ h2
      | _ => rcases hop with rfl | rfl <;> simp [eqGuard]
    | agg l =>
      have e1 := hx.agg_inv
      cases y' with
      | agg l' => exact absurd ⟨e1, hy.agg_inv⟩ h1
      | _ => rcases hop with rfl | rfl <;> simp [eqGuard]
    | _ => rcases hop with rfl | rfl <;> simp [eqGuard]
  cases op <;> first
    | exact key _ (.inl rfl)
    | exact key _ (.inr rfl)
    | simp [eqGuard]

theorem run_bin {op : BinOp} {t : TypeId} {xo yo : Operand} {x y : AV} {x' y' : Value} {v : AV} (hx : Rep w I α x x') (hy : Rep w I α y y')
    (h : binA P op t xo yo x y = some v) :
    ∃ v', (do eqGuard op t xo yo x' y'; binOp op t x' y' : Sem Value).run P w = .ok v' w ∧ Rep w I α v v' := by
  by_cases hi : (∃ k a, x = .int k a) ∧ (∃ k a, y = .int k a)
  · obtain ⟨⟨k, a, rfl⟩, ⟨k', b, rfl⟩⟩ := hi
    cases hx; cases hy
    exact bin_int h
  by_cases hs : (∃ a, x = .str a) ∧ (∃ a, y = .str a)
  · obtain ⟨⟨a, rfl⟩, ⟨b, rfl⟩⟩ := hs
    cases hx with
    | str _ a' ha => cases hy with
      | str _ b' hb => exact bin_str ha hb h
  have heq : ∀ (r : Bool), equalA P 16 t x y = some r → (op = .eql ∧ v = .bool r ∨ op = .neq ∧ v = .bool (!r)) → (eqGuard op t xo yo x' y').run P w = .ok () w →
      ∃ v', (do eqGuard op t xo yo x' y'; binOp op t x' y' : Sem Value).run P w = .ok v' w ∧ Rep w I α v v' := by
    intro r hr hop hg
    have hrun := run_eql hx hy hr
    rcases hop with ⟨rfl, rfl⟩ | ⟨rfl, rfl⟩
    · refine ⟨.bool r, ?_, .bool _⟩
      simp only [Sem.run_bind, hg, Result.andThen_ok]
      rw [run_binOp_eql hx hy hi hs, hrun]; rfl
    · refine ⟨.bool (!r), ?_, .bool _⟩
      simp only [Sem.run_bind, hg, Result.andThen_ok]
      rw [run_binOp_neq hx hy hi hs, hrun]; rfl
  unfold binA at h
  split at h
  · exact absurd ⟨⟨_, _, rfl⟩, ⟨_, _, rfl⟩⟩ hi
  · exact absurd ⟨⟨_, _, rfl⟩, ⟨_, _, rfl⟩⟩ hi
  · exact absurd ⟨⟨_, _, rfl⟩, ⟨_, _, rfl⟩⟩ hi
  · exact absurd ⟨⟨_, rfl⟩, ⟨_, rfl⟩⟩ hs
  · split at h
    · simp at h
    · rename_i hgd
      simp only [Option.map_eq_some_iff] at h
      obtain ⟨r, hr, rfl⟩ := h
      obtain ⟨xs', rfl, _⟩ := Rep.agg_iff.1 hx
      obtain ⟨ys', rfl, _⟩ := Rep.agg_iff.1 hy
      exact heq r hr (.inl ⟨rfl, rfl⟩) (run_eqGuard_agg w _ t _ _ _ _ (by simpa using hgd))
  · split at h
    · simp at h
    · rename_i hgd
      simp only [Option.map_eq_some_iff] at h
      obtain ⟨r, hr, rfl⟩ := h
      obtain ⟨xs', rfl, _⟩ := Rep.agg_iff.1 hx
      obtain ⟨ys', rfl, _⟩ := Rep.agg_iff.1 hy
      exact heq r hr (.inr ⟨rfl, rfl⟩) (run_eqGuard_agg w _ t _ _ _ _ (by simpa using hgd))
  · split at h
    · rename_i hc
      simp only [Option.map_eq_some_iff] at h
      obtain ⟨r, hr, rfl⟩ := h
      cases hx; cases hy
      refine heq r hr (.inl ⟨rfl, rfl⟩) ?_
      rcases Bool.or_eq_true_iff.1 hc with hc | hc <;> (unfold isConstNil at hc; split at hc <;> first | (simp at hc; done) | simp [eqGuard])
    · simp at h
  · split at h
    · rename_i hc
      simp only [Option.map_eq_some_iff] at h
      obtain ⟨r, hr, rfl⟩ := h
      cases hx; cases hy
      refine heq r hr (.inr ⟨rfl, rfl⟩) ?_
      rcases Bool.or_eq_true_iff.1 hc with hc | hc <;> (unfold isConstNil at hc; split at hc <;> first | (simp at hc; done) | simp [eqGuard])
    · simp at h
  · rename_i h1 h2
    simp only [Option.map_eq_some_iff] at h
    obtain ⟨r, hr, rfl⟩ := h
    refine heq r hr (.inl ⟨rfl, rfl⟩) (run_eqGuard_other hx hy ?_ ?_)
    · rintro ⟨⟨l, rfl⟩, ⟨l', rfl⟩⟩; exact (h1 _ _ rfl rfl).elim
    · rintro ⟨rfl, rfl⟩; exact (h2 rfl rfl).elim
  · rename_i h1 h2
    simp only [Option.map_eq_some_iff] at h
    obtain ⟨r, hr, rfl⟩ := h
    refine heq r hr (.inr ⟨rfl, rfl⟩) (run_eqGuard_other hx hy ?_ ?_)
    · rintro ⟨⟨l, rfl⟩, ⟨l', rfl⟩⟩; exact (h1 _ _ rfl rfl).elim
    · rintro ⟨rfl, rfl⟩; exact (h2 rfl rfl).elim
  · simp at h

theorem run_un {op : UnOp} {x : AV} {x' : Value} {v : AV} (hx : Rep w I α x x') (h : unA op x = some v) : ∃ v', (Op.unary op x').run P w = .ok v' w ∧ Rep w I α v v' := by
  unfold unA at h
  split at h
  · cases hx; simp at h; subst h; exact ⟨_, by simp [Op.unary, Op.intArith, wrapA_eq], .int _ _⟩
  · cases hx; simp only [Option.some.injEq] at h; subst h; exact ⟨_, by simp [Op.unary, Op.intBits, wrapA_eq], .int _ _⟩
  · cases hx; simp at h; subst h; exact ⟨_, by simp [Op.unary], .bool _⟩
  · simp at h

end
end Go.Proofs.Abs
