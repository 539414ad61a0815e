/- Objects that are such as are met: what is put into them keeps them so. -/
import Derived.Test.YtjhggnebkfpgcaaGreatDoorObj6
import Derived.KernelRfl
namespace Go.Proofs.YtjhggnebkfpgcaaGreatDoor
open Go Go.RowKit
open Go.Proofs.Abs
structure Okay (o : Ob) : Prop where
 fit : FitO o
 n : ∀ s ∈ o.names, s ∈ texts
 l : ∀ x ∈ o.links, x.id ∈ texts
 c : ∀ x ∈ o.cust, x.text ∈ texts
 i : o.id ∈ texts
 m : o.msg.length ≤ 8
theorem texts_short : ∀ s ∈ texts, s.length ≤ 8 := by decide
theorem ok_txt {s : List UInt8} (h : s.length ≤ 8) : okI big (txt s) := ⟨Nat.le_trans h (by decide), by simp [big], trivial⟩
theorem ok_num (y n : Int) : okI big (numI y n) := ⟨by simp [big], by simp [big], trivial⟩
theorem one_len {b : Bool} {x : It} : (oneL b x).length ≤ 1 := by cases b <;> simp [oneL]
theorem one_mem {b : Bool} {x y : It} (h : y ∈ oneL b x) : y = x := by
 cases b with
 | true => simpa [oneL] using h
 | false => cases h
theorem ok_kids {s : List UInt8} (h : s.length ≤ 8) (a b c n : Int) (l : List It) (hl : l = [prt a b n, .mk c 7 0 s []]) : okI big (whl l) := by
 subst hl
 simp [whl, vlV, okI, okIs, prt, big]
 omega
theorem Okay.g {o : Ob} (h : Okay o) : ∀ k, OkG o k := by
 intro k
 have t := texts_short
 cases k with
 | uid => exact ⟨by simp [getK], fun x hx => by
   simp only [getK, List.mem_singleton] at hx; subst hx; exact ok_txt (t _ h.i)⟩
 | nam => exact ⟨by have := h.fit.n; simp only [getK, List.length_map]; omega, fun x hx => by
   obtain ⟨s, hs, rfl⟩ := List.mem_map.1 hx; exact ok_txt (t _ (h.n s hs))⟩
 | typ => exact ⟨by simp [getK], fun x hx => by
   simp only [getK, List.mem_singleton] at hx; subst hx; exact ok_num _ _⟩
 | alg => exact ⟨Nat.le_trans one_len (by decide), fun x hx => by rw [one_mem hx]; exact ok_num _ _⟩
 | len => exact ⟨Nat.le_trans one_len (by decide), fun x hx => by rw [one_mem hx]; exact ok_num _ _⟩
 | mask => exact ⟨by simp [getK], fun x hx => by
   simp only [getK, List.mem_singleton] at hx; subst hx; exact ok_num _ _⟩
 | sta => exact ⟨by simp [getK], fun x hx => by
   simp only [getK, List.mem_singleton] at hx; subst hx; exact ok_num _ _⟩
 | dat k => exact ⟨Nat.le_trans one_len (by decide), fun x hx => by rw [one_mem hx]; exact ok_num _ _⟩
 | why => exact ⟨Nat.le_trans one_len (by decide), fun x hx => by
   rw [one_mem hx]
   have hm := h.m
   simp only [whyI]
   match o.msg, hm with
   | [], _ => simp [whl, vlV, okI, okIs, prt, msgI, big]
   | a :: r, hm =>
    simp only [List.length_cons] at hm
    simp [whl, vlV, okI, okIs, prt, msgI, big]
    omega⟩
 | lnk => exact ⟨by have := h.fit.l; simp only [getK, List.length_map]; omega, fun x hx => by
   obtain ⟨s, hs, rfl⟩ := List.mem_map.1 hx
   exact ok_kids (t _ (h.l s hs)) _ _ _ _ _ rfl⟩
 | lim => exact ⟨Nat.le_trans one_len (by decide), fun x hx => by
   rw [one_mem hx]
   simp [limI, whl, vlV, okI, okIs, prt, big]⟩
 | cus s => exact ⟨by
   have := h.fit.c
   simp only [getK, List.length_map]
   exact Nat.le_trans (List.length_filter_le _ _) (by omega), fun x hx => by
   obtain ⟨c, hc, rfl⟩ := List.mem_map.1 hx
   exact ok_txt (t _ (h.c c (List.mem_filter.1 hc).1))⟩
theorem okay_of {o : Ob} (h : OxF o) : Okay o := by
 have hc := h.i.names
 refine ⟨⟨by omega, h.i.l1, h.i.c1, Nat.le_trans h.m (by decide)⟩, fun s hs => ?_, fun s hs => ?_, fun s hs => ?_, ?_, ?_⟩
 ·exact (by decide : ∀ s ∈ nmL, s ∈ texts) s (h.i.n1 s hs)
 ·exact (by decide : ∀ s ∈ idL, s ∈ texts) _ (h.i.l3 s hs)
 ·exact (by decide : ∀ s ∈ ctL, s ∈ texts) _ (h.i.c3 s hs).2
 ·exact (by decide : ∀ s ∈ idL, s ∈ texts) _ h.i.id
 ·exact (by decide : ∀ s ∈ msL, s.length ≤ 8) _ h.i.msg
end Go.Proofs.YtjhggnebkfpgcaaGreatDoor
