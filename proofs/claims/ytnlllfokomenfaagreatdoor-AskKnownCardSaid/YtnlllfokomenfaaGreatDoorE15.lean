/- Slots; one operation in its region. -/
import Derived.Test.YtnlllfokomenfaaGreatDoorE14
namespace Go.Proofs.Abs
open Go

theorem Tr.get_node (v : Option AV) (l r : Tr) (k : Nat) : (Tr.node v l r).get k = if k = 0 then v else if k % 2 = 1 then l.get (k / 2) else r.get (k / 2 - 1) := by
  show @Bool.rec (fun _ => Option AV) (@Bool.rec (fun _ => Option AV) (r.get (k / 2 - 1)) (l.get (k / 2)) (Nat.beq (k % 2) 1)) v (Nat.beq k 0) = _
  by_cases h : k = 0
  · subst h; rfl
  · rw [if_neg h, beq_false_iff.2 h]
    by_cases h2 : k % 2 = 1
    · rw [if_pos h2, beq_iff.2 h2]
    · rw [if_neg h2, beq_false_iff.2 h2]

theorem Tr.set_zero (t : Tr) (k : Nat) (x : AV) : Tr.set 0 t k x = t := rfl
theorem Tr.set_tip (d k : Nat) (x : AV) : Tr.set (d + 1) .tip k x = if k = 0 then .node (some x) .tip .tip else if k % 2 = 1 then .node none (Tr.set d .tip (k / 2) x) .tip else .node none .tip (Tr.set d .tip (k / 2 - 1) x) := by
  show @Bool.rec (fun _ => Tr) (@Bool.rec (fun _ => Tr) (Tr.node none .tip (Tr.set d .tip (k / 2 - 1) x)) (.node none (Tr.set d .tip (k / 2) x) .tip) (Nat.beq (k % 2) 1)) (.node (some x) .tip .tip) (Nat.beq k 0) = _
  by_cases h : k = 0
  · subst h; rfl
  · rw [if_neg h, beq_false_iff.2 h]
    by_cases h2 : k % 2 = 1
    · rw [if_pos h2, beq_iff.2 h2]
    · rw [if_neg h2, beq_false_iff.2 h2]
theorem Tr.set_node (d : Nat) (v : Option AV) (l r : Tr) (k : Nat) (x : AV) : Tr.set (d + 1) (.node v l r) k x = if k = 0 then .node (some x) l r else if k % 2 = 1 then .node v (Tr.set d l (k / 2) x) r else .node v l (Tr.set d r (k / 2 - 1) x) := by
  show @Bool.rec (fun _ => Tr) (@Bool.rec (fun _ => Tr) (Tr.node v l (Tr.set d r (k / 2 - 1) x)) (.node v (Tr.set d l (k / 2) x) r) (Nat.beq (k % 2) 1)) (.node (some x) l r) (Nat.beq k 0) = _
  by_cases h : k = 0
  · subst h; rfl
  · rw [if_neg h, beq_false_iff.2 h]
    by_cases h2 : k % 2 = 1
    · rw [if_pos h2, beq_iff.2 h2]
    · rw [if_neg h2, beq_false_iff.2 h2]

theorem Tr.get_set_ne : ∀ (d : Nat) (t : Tr) {k j : Nat} (x : AV), j ≠ k → (Tr.set d t k x).get j = t.get j
  | 0, _, _, _, _, _ => rfl
  | d + 1, .tip, k, j, x, h => by
    rw [Tr.set_tip]
    split
    · rw [Tr.get_node, if_neg (by omega)]; split <;> rfl
    · split
      · rw [Tr.get_node]
        split
        · rfl
        · split
          · rw [Tr.get_set_ne d .tip x (by omega)]; rfl
          · rfl
      · rw [Tr.get_node]
        split
        · rfl
        · split
          · rfl
          · rw [Tr.get_set_ne d .tip x (by omega)]; rfl
  | d + 1, .node v l r, k, j, x, h => by
    rw [Tr.set_node]
    rw [Tr.get_node v l r]
    split
    · have hj : j ≠ 0 := by omega
      simp only [Tr.get_node, if_neg hj]
    · split
      · rw [Tr.get_node]
        split
        · rfl
        · split
          · rw [Tr.get_set_ne d l x (by omega)]
          · rfl
      · rw [Tr.get_node]
        split
        · rfl
        · split
          · rfl
          · rw [Tr.get_set_ne d r x (by omega)]

theorem Tr.get_set_self : ∀ (d : Nat) (t : Tr) {k : Nat} (x : AV), (Tr.set d t k x).get k = some x ∨ (Tr.set d t k x).get k = t.get k
  | 0, _, _, _ => .inr rfl
  | d + 1, .tip, k, x => by
    rw [Tr.set_tip]
    split
    · rename_i h; subst h; exact .inl (by rw [Tr.get_node, if_pos rfl])
    · rename_i h
      split
      · rename_i h2
        rw [Tr.get_node, if_neg h, if_pos h2]
        exact Tr.get_set_self d .tip x
      · rename_i h2
        rw [Tr.get_node, if_neg h, if_neg h2]
        exact Tr.get_set_self d .tip x
  | d + 1, .node v l r, k, x => by
    rw [Tr.set_node]
    split
    · rename_i h; subst h; exact .inl (by rw [Tr.get_node, if_pos rfl])
    · rename_i h
      rw [Tr.get_node v l r, if_neg h]
      split
      · rename_i h2
        rw [Tr.get_node, if_neg h, if_pos h2]
        exact Tr.get_set_self d l x
      · rename_i h2
        rw [Tr.get_node, if_neg h, if_neg h2]
        exact Tr.get_set_self d r x

theorem Tr.get_set_lt : ∀ (d : Nat) (t : Tr) {k : Nat} (x : AV), k + 1 < 2 ^ d → (Tr.set d t k x).get k = some x
  | 0, _, k, _, h => by simp at h
  | d + 1, .tip, k, x, h => by
    rw [Tr.set_tip]
    have h2 : 2 ^ (d + 1) = 2 * 2 ^ d := by rw [Nat.pow_succ]; omega
    split
    · rename_i h; subst h; rw [Tr.get_node, if_pos rfl]
    · rename_i h0
      split
      · rename_i h1
        rw [Tr.get_node, if_neg h0, if_pos h1]
        exact Tr.get_set_lt d .tip x (by omega)
      · rename_i h1
        rw [Tr.get_node, if_neg h0, if_neg h1]
        exact Tr.get_set_lt d .tip x (by omega)
  | d + 1, .node v l r, k, x, h => by
    rw [Tr.set_node]
    have h2 : 2 ^ (d + 1) = 2 * 2 ^ d := by rw [Nat.pow_succ]; omega
    split
    · rename_i h; subst h; rw [Tr.get_node, if_pos rfl]
    · rename_i h0
      split
      · rename_i h1
        rw [Tr.get_node, if_neg h0, if_pos h1]
        exact Tr.get_set_lt d l x (by omega)
      · rename_i h1
        rw [Tr.get_node, if_neg h0, if_neg h1]
        exact Tr.get_set_lt d r x (by omega)

theorem Tr.set_comm : ∀ (d : Nat) (t : Tr) {k j : Nat} (x y : AV), k ≠ j → Tr.set d (Tr.set d t k x) j y = Tr.set d (Tr.set d t j y) k x
  | 0, _, _, _, _, _, _ => rfl
  | d + 1, t, k, j, x, y, h => by
    cases t with
    | tip =>
      rw [Tr.set_tip, Tr.set_tip]
      by_cases k0 : k = 0 <;> by_cases j0 : j = 0 <;> by_cases k1 : k % 2 = 1 <;> by_cases j1 : j % 2 = 1 <;>
        first
        | omega
        | (simp only [k0, j0, k1, j1, if_true, if_false, Tr.set_node]; done)
        | (simp only [k0, j0, k1, j1, if_true, if_false, Tr.set_node]
           first
           | (rw [Tr.set_comm d .tip x y (by omega)]; done)
           | rfl
           | simp_all)
    | node v l r =>
      rw [Tr.set_node, Tr.set_node]
      by_cases k0 : k = 0 <;> by_cases j0 : j = 0 <;> by_cases k1 : k % 2 = 1 <;> by_cases j1 : j % 2 = 1 <;>
        first
        | omega
        | (simp only [k0, j0, k1, j1, if_true, if_false, Tr.set_node]; done)
        | (simp only [k0, j0, k1, j1, if_true, if_false, Tr.set_node]
           first
           | (rw [Tr.set_comm d l x y (by omega)]; done)
           | (rw [Tr.set_comm d r x y (by omega)]; done)
           | rfl
           | simp_all)

end Go.Proofs.Abs
