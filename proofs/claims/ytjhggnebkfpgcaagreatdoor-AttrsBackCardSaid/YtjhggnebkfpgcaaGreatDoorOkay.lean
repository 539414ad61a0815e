/- Objects that are such as are met: what is put into them keeps them so. -/
import Derived.Test.YtjhggnebkfpgcaaGreatDoorObj6
import Derived.KernelRfl
namespace Go.Proofs.YtjhggnebkfpgcaaGreatDoor
open Go Go.RowKit
open Go.Proofs.Abs
structure Okay (o : Ob) : Prop where
 fit : FitO o
 n : ∀ s ∈ o.names, s ∈ texts
 l : ∀ x ∈ o.links, x.id ∈ texts
 c : ∀ x ∈ o.cust, x.text ∈ texts
 i : o.id ∈ texts
 m : o.msg.length ≤ 8
theorem texts_short : ∀ s ∈ texts, s.length ≤ 8 := by decide
theorem ok_txt {s : List UInt8} (h : s.length ≤ 8) : okI big (txt s) := ⟨Nat.le_trans h (by decide), by simp [big], trivial⟩
theorem ok_num (y n : Int) : okI big (numI y n) := ⟨by simp [big], by simp [big], trivial⟩
theorem one_len {b : Bool} {x : It} : (oneL b x).length ≤ 1 := by cases b <;> simp [oneL]
theorem one_mem {b : Bool} {x y : It} (h : y ∈ oneL b x) : y = x := by
 cases b with
 | true => simpa [oneL] using h
 | false => cases h
theorem ok_kids {s : List UInt8} (h : s.length ≤ 8) (a b c n : Int) (l : List It) (hl : l = [prt a b n, .mk c 7 0 s []]) : okI big (whl l) := by
 subst hl
 simp [whl, vlV, okI, okIs, prt, big]
 omega
theorem Okay.g {o : Ob} (h : Okay o) : ∀ k, OkG o k := by
 intro k
 have t := texts_short
 cases k with
 | uid => exact ⟨by simp [getK], fun x hx => by
   simp only [getK, List.mem_singleton] at hx; subst hx; exact ok_txt (t _ h.i)⟩
 | nam => exact ⟨by have := h.fit.n; simp only [getK, List.length_map]; omega, fun x hx => by
   obtain ⟨s, hs, rfl⟩ := List.mem_map.1 hx; exact ok_txt (t _ (h.n s hs))⟩
 | typ => exact ⟨by simp [getK], fun x hx => by
   simp only [getK, List.mem_singleton] at hx; subst hx; exact ok_num _ _⟩
 | alg => exact ⟨Nat.le_trans one_len (by decide), fun x hx => by rw [one_mem hx]; exact ok_num _ _⟩
 | len => exact ⟨Nat.le_trans one_len (by decide), fun x hx => by rw [one_mem hx]; exact ok_num _ _⟩
 | mask => exact ⟨by simp [getK], fun x hx => by
   simp only [getK, List.mem_singleton] at hx; subst hx; exact ok_num _ _⟩
 | sta => exact ⟨by simp [getK], fun x hx => by
   simp only [getK, List.mem_singleton] at hx; subst hx; exact ok_num _ _⟩
 | dat k => exact ⟨Nat.le_trans one_len (by decide), fun x hx => by rw [one_mem hx]; exact ok_num _ _⟩
 | why => exact ⟨Nat.le_trans one_len (by decide), fun x hx => by
   rw [one_mem hx]
   have hm := h.m
   simp only [whyI]
   match o.msg, hm with
   | [], _ => simp [whl, vlV, okI, okIs, prt, msgI, big]
   | a :: r, hm =>
    simp only [List.length_cons] at hm
    simp [whl, vlV, okI, okIs, prt, msgI, big]
    omega⟩
 | lnk => exact ⟨by have := h.fit.l; simp only [getK, List.length_map]; omega, fun x hx => by
   obtain ⟨s, hs, rfl⟩ := List.mem_map.1 hx
   exact ok_kids (t _ (h.l s hs)) _ _ _ _ _ rfl⟩
 | lim => exact ⟨Nat.le_trans one_len (by decide), fun x hx => by
   rw [one_mem hx]
   simp [limI, whl, vlV, okI, okIs, prt, big]⟩
 | cus s => exact ⟨by
   have := h.fit.c
   simp only [getK, List.length_map]
   exact Nat.le_trans (List.length_filter_le _ _) (by omega), fun x hx => by
   obtain ⟨c, hc, rfl⟩ := List.mem_map.1 hx
   exact ok_txt (t _ (h.c c (List.mem_filter.1 hc).1))⟩
theorem okay_of {o : Ob} (h : OxF o) : Okay o := by
 have hc := h.i.names
 refine ⟨⟨by omega, h.i.l1, h.i.c1, Nat.le_trans h.m (by decide)⟩, fun s hs => ?_, fun s hs => ?_, fun s hs => ?_, ?_, ?_⟩
 ·exact (by decide : ∀ s ∈ nmL, s ∈ texts) s (h.i.n1 s hs)
 ·exact (by decide : ∀ s ∈ idL, s ∈ texts) _ (h.i.l3 s hs)
 ·exact (by decide : ∀ s ∈ ctL, s ∈ texts) _ (h.i.c3 s hs).2
 ·exact (by decide : ∀ s ∈ idL, s ∈ texts) _ h.i.id
 ·exact (by decide : ∀ s ∈ msL, s.length ≤ 8) _ h.i.msg
theorem mem_put {α : Type} {l : List α} {i : Nat} {x y : α} (h : y ∈ putL l i x) : y ∈ l ∨ y = x := by
 simp only [putL, List.mem_append, List.mem_cons] at h
 rcases h with h | h | h
 ·exact .inl (List.mem_of_mem_take h)
 ·exact .inr h
 ·exact .inl (List.mem_of_mem_drop h)
theorem len_put {α : Type} {l : List α} {i n : Nat} {x : α} (h : i ≤ l.length) (h1 : l.length ≤ n) (h2 : i < n) : (putL l i x).length ≤ n := by
 simp only [putL, List.length_append, List.length_cons, List.length_take, List.length_drop]
 omega
theorem txI_kid {v : It} (h : txI v) (i : Nat) : itD (kid v i) ∈ texts := by
 unfold kid
 cases hk : (itK v)[i]? with
 | none => exact txI_d h
 | some k =>
  have : ∀ (l : List It), txIs l → ∀ (i : Nat) (k : It), l[i]? = some k → txI k := by
   intro l
   induction l with
   | nil => intro _ i k h; simp at h
   | cons a r ih =>
    intro hl i k h
    cases i with
    | zero => simp at h; subst h; exact hl.1
    | succ i => exact ih hl.2 i k (by simpa using h)
  refine txI_d (this (itK v) ?_ i k hk)
  cases v
  exact h.2
theorem Okay.date {o : Ob} (h : Okay o) (d : Dt) (k : Nat) : Okay (setDate o d k) := by
 have e : ∀ p : Ob, p.names = o.names → p.links = o.links → p.cust = o.cust → p.mat = o.mat → p.id = o.id → p.msg = o.msg → Okay p := fun p h1 h2 h3 h4 h5 h6 =>
  ⟨⟨by rw [h1]; exact h.fit.n, by rw [h2]; exact h.fit.l, by rw [h3]; exact h.fit.c, by rw [h4]; exact h.fit.m⟩, by rw [h1]; exact h.n, by rw [h2]; exact h.l, by rw [h3]; exact h.c, by rw [h5]; exact h.i, by rw [h6]; exact h.m⟩
 unfold setDate
 split <;> exact e _ rfl rfl rfl rfl rfl rfl
theorem Okay.put {o : Ob} (h : Okay o) {k : Kd} {j : Nat} (hj : idxOk o j k) {v : It} (hv : txI v) : Okay (putK o j v k) := by
 cases k with
 | nam => exact ⟨⟨len_put hj.1 h.fit.n hj.2, h.fit.l, h.fit.c, h.fit.m⟩, fun s hs => by
   rcases mem_put hs with hs | rfl
   ·exact h.n s hs
   ·exact txI_d hv, h.l, h.c, h.i, h.m⟩
 | alg => exact ⟨⟨h.fit.n, h.fit.l, h.fit.c, h.fit.m⟩, h.n, h.l, h.c, h.i, h.m⟩
 | len => exact ⟨⟨h.fit.n, h.fit.l, h.fit.c, h.fit.m⟩, h.n, h.l, h.c, h.i, h.m⟩
 | mask => exact ⟨⟨h.fit.n, h.fit.l, h.fit.c, h.fit.m⟩, h.n, h.l, h.c, h.i, h.m⟩
 | dat k => exact h.date _ k
 | lnk => exact ⟨⟨h.fit.n, len_put hj.1 h.fit.l hj.2, h.fit.c, h.fit.m⟩, h.n, fun s hs => by
   rcases mem_put hs with hs | rfl
   ·exact h.l s hs
   ·exact txI_kid hv 1, h.c, h.i, h.m⟩
 | lim => exact ⟨⟨h.fit.n, h.fit.l, h.fit.c, h.fit.m⟩, h.n, h.l, h.c, h.i, h.m⟩
 | cus s =>
  have hp := place_le (o := o) (s := s) (j := j) (by rcases hj with hj | hj <;> omega)
  have h6 : placeAt o s j < 6 := by
   have := h.fit.c
   rcases hj with hj | hj
   ·have := hp.2.2 hj; omega
   ·have := hp.2.1; omega
  exact ⟨⟨h.fit.n, h.fit.l, len_put hp.2.1 h.fit.c h6, h.fit.m⟩, h.n, h.l, fun c hc => by
   rcases mem_put hc with hc | rfl
   ·exact h.c c hc
   ·exact txI_d hv, h.i, h.m⟩
 | _ => exact h
def AnsOk (p : Ob × Int) : Prop := p.2 = 0 → Okay p.1 ∧ soundB p.1 = true
theorem ans_no {o : Ob} {e : Int} (h : e ≠ 0) : AnsOk (o, e) := fun h0 => absurd h0 h
theorem laid_ok {o : Ob} (h : Okay o) {k : Kd} {j : Nat} (hj : idxOk o j k) {v : It} (hv : txI v) : AnsOk (laidK o k j v) := by
 unfold laidK
 split
 ·rename_i hs
  exact fun _ => ⟨h.put hj hv, hs⟩
 ·exact ans_no (by decide)
theorem more_ok {o : Ob} (h : Okay o) {k : Kd} {a : At} (ha : txI a.v) : AnsOk (moreK o k a) := by
 unfold moreK
 split
 ·exact ans_no (by decide)
 split
 ·exact ans_no (by decide)
 split
 ·exact ans_no (by decide)
 split
 ·exact ans_no (by decide)
 ·rename_i hr
  split
  ·exact ans_no (by decide)
  ·cases hm : manyK k with
   | true => exact laid_ok h (idx_more hm hr) ha
   | false => exact laid_ok h (idx_one hm 0) ha
theorem chg_ok {p : Ob × Int} (h : AnsOk p) (now : Int) : AnsOk (chg p now) := by
 unfold chg
 split
 ·rename_i h0
  exact ans_no (beqInt_false.1 h0)
 ·rename_i h0
  obtain ⟨h1, h2⟩ := h (beqInt_iff.1 h0)
  exact fun _ => ⟨h1.date ⟨true, now⟩ 9, h2⟩
theorem add_ok {c : Bool} {o : Ob} (h : Okay o) {a : At} (ha : txI a.v) (now : Int) : AnsOk (addS c o a now) := by
 unfold addS
 split
 ·exact ans_no (by decide)
 split
 ·exact ans_no (by decide)
 split
 ·exact ans_no (by decide)
 split
 ·exact ans_no (by decide)
 ·exact chg_ok (more_ok h ha) now
theorem value_tx (s : List UInt8) (r : Rw) : txI (valueI s r) := by
 have hid : ofL idL [] r.b ∈ texts := (by decide : ∀ s ∈ idL, s ∈ texts) _ (ofL_mem idL [] r.b (by simp [idL]))
 have htx : ofL txL [] r.a ∈ texts := (by decide : ∀ s ∈ txL, s ∈ texts) _ (ofL_mem txL [] r.a (by simp [txL]))
 have h0 : ([] : List UInt8) ∈ texts := by decide
 unfold valueI
 repeat' split
 all_goals
  simp only [vlV, vlP, txI, txIs]
  simp only [hid, htx, h0, and_self]
end Go.Proofs.YtjhggnebkfpgcaaGreatDoor
