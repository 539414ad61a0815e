/- What was added is told, at its place, and deleted again leaves all as it was: the plain law. -/
import Derived.Test.YtjhggnebkfpgcaaGreatDoorOSame
import Derived.Test.YtjhggnebkfpgcaaGreatDoorOkay
import Derived.KernelRfl
namespace Go.Proofs.YtjhggnebkfpgcaaGreatDoor
open Go Go.RowKit
open Go.Proofs.Abs
def addB : Kd → Bool
 | .nam | .lnk | .lim | .cus _ => true
 | .dat 1 | .dat 2 | .dat 3 | .dat 4 => true
 | _ => false
theorem add_b {k : Kd} (h : whN (addW k) = true) : addB k = true := by
 cases k with
 | dat k =>
  simp only [addW] at h
  unfold addD' at h
  split at h <;> first | rfl | cases h
 | _ => first | rfl | cases h
theorem shape_of {t y n tag kind : Int} {d : List UInt8} {ks : List It} (h : shapeI (.mk t y n d ks) tag kind = true) : t = tag ∧ y = kind ∧ (beqInt kind 1 = false → ks = []) ∧ (dataK kind = false → d = []) ∧ ((beqInt kind 1 = true ∨ dataK kind = true) → n = 0) := by
 simp only [shapeI, shapeB, Bool.and_eq_true, Bool.or_eq_true, beqInt_iff] at h
 obtain ⟨h1, h2, h3, h4, h5⟩ := h
 refine ⟨h1, h2, fun e => ?_, fun e => ?_, fun e => ?_⟩
 ·rcases h3 with h3 | h3
  ·subst h3; cases e
  ·cases ks with
   | nil => rfl
   | cons a r => simp at h3; omega
 ·rcases h4 with h4 | h4
  ·rw [h4] at e; cases e
  ·cases d with
   | nil => rfl
   | cons a r => simp at h4; omega
 ·rcases h5 with h5 | h5
  ·rcases e with e | e <;> rw [e] at h5 <;> simp at h5
  ·exact h5
theorem text_of {v : It} {tag : Int} (h : textI v tag = true) : v = .mk tag 7 0 (itD v) [] := by
 obtain ⟨t, y, n, d, ks⟩ := v
 simp only [textI, Bool.and_eq_true] at h
 obtain ⟨rfl, rfl, h3, _, h5⟩ := shape_of h.1
 rw [h3 rfl, h5 (.inr rfl)]
 rfl
theorem num_of {v : It} {tag kind lo hi : Int} (h : numB v tag kind lo hi = true) (h1 : beqInt kind 1 = false) (h2 : dataK kind = false) : v = .mk tag kind (itN v) [] [] := by
 obtain ⟨t, y, n, d, ks⟩ := v
 simp only [numB, Bool.and_eq_true] at h
 obtain ⟨rfl, rfl, h3, h4, _⟩ := shape_of h.1
 rw [h3 h1, h4 h2]
 rfl
theorem str_of {v : It} (h : shapeI v 4325387 1 = true) : v = whl (itK v) := by
 obtain ⟨t, y, n, d, ks⟩ := v
 obtain ⟨rfl, rfl, _, h4, h5⟩ := shape_of h
 rw [h4 rfl, h5 (.inl rfl)]
 rfl
theorem told_lnk {v : It} (h1 : shapeI v 4325387 1 = true) (h2 : lkB (itK v) = true) : v = lkI ⟨itN (kid v 0), itD (kid v 1)⟩ := by
 have e := str_of h1
 revert h2 e
 unfold kid
 generalize itK v = l
 intro h2 e
 match l, h2 with
 | [a, b], h2 =>
  simp only [lkB, Bool.and_eq_true] at h2
  have ea := num_of h2.1 rfl rfl
  have eb := text_of h2.2
  rw [e, ea, eb]
  rfl
theorem told_lim {v : It} (h1 : shapeI v 4325387 1 = true) (h2 : liB (itK v) = true) : v = whl [prt 4325527 3 (itN (kid v 0)), prt 4325526 3 (itN (kid v 1)), prt 4325528 5 (itN (kid v 2))] := by
 have e := str_of h1
 revert h2 e
 unfold kid
 generalize itK v = l
 intro h2 e
 match l, h2 with
 | [a, b, c], h2 =>
  simp only [liB, Bool.and_eq_true] at h2
  have ea := num_of h2.1 rfl rfl
  have eb := num_of h2.2.1 rfl rfl
  have ec := num_of h2.2.2 rfl rfl
  rw [e, ea, eb, ec]
  rfl
theorem putL_end {α : Type} (l : List α) (x : α) : putL l l.length x = l ++ [x] := by
 simp [putL]
theorem dropL_end {α : Type} (l : List α) (x : α) : dropL (l ++ [x]) l.length = l := by
 simp [dropL]
theorem place_end (o : Ob) (s : List UInt8) : placeAt o s (placesL s o.cust 0).length = o.cust.length := by
 simp [placeAt]
theorem get_put {o : Ob} {k : Kd} {v : It} (hb : addB k = true) (hr : rightK o v k = true) (h1 : manyK k = false → getK o k = []) : getK (putK o (getK o k).length v k) k = getK o k ++ [v] := by
 cases k with
 | nam =>
  have e := text_of hr
  simp only [getK, putK, List.length_map, putL_end, List.map_append, List.map_cons, List.map_nil]
  rw [show txt (itD v) = v from e.symm]
 | lnk =>
  simp only [rightK, Bool.and_eq_true] at hr
  have e := told_lnk hr.1 hr.2
  simp only [getK, putK, List.length_map, putL_end, List.map_append, List.map_cons, List.map_nil]
  rw [← e]
 | lim =>
  simp only [rightK, Bool.and_eq_true] at hr
  have e := told_lim hr.1 hr.2.1
  rw [h1 rfl]
  simp only [getK, putK, oneL, limI, List.nil_append]
  rw [← e]
 | cus s =>
  have e := text_of hr
  have hl := cus_len o s
  rw [hl]
  simp only [getK, putK, place_end, putL_end, List.filter_append, List.map_append, List.filter_cons, beqBytes_iff.2, List.filter_nil, if_true, List.map_cons, List.map_nil]
  rw [show txt (itD v) = v from e.symm]
 | dat k =>
  have e := num_of (show numB v 4325387 9 (-1099511627776) 1099511627776 = true from hr) rfl rfl
  rw [h1 rfl]
  match k, hb with
  | 1, _ => rw [show ([] : List It) ++ [v] = [v] from rfl, e]; rfl
  | 2, _ => rw [show ([] : List It) ++ [v] = [v] from rfl, e]; rfl
  | 3, _ => rw [show ([] : List It) ++ [v] = [v] from rfl, e]; rfl
  | 4, _ => rw [show ([] : List It) ++ [v] = [v] from rfl, e]; rfl
 | _ => cases hb
theorem get_d9 {o : Ob} {k : Kd} (hb : addB k = true) (x : Dt) : getK { o with d9 := x } k = getK o k := by
 cases k with
 | dat k =>
  match k, hb with
  | 1, _ => rfl
  | 2, _ => rfl
  | 3, _ => rfl
  | 4, _ => rfl
 | _ => first | rfl | cases hb
theorem put_arch (o : Ob) (i : Nat) (v : It) (k : Kd) : (putK o i v k).arch = o.arch := by
 cases k <;> first | rfl | (simp only [putK]; unfold setDate; split <;> rfl)
theorem lim_eq {o : Ob} (h : o.lh = false) (a : o.lt = 0) (b : o.lc = 0) (c : o.lu = 0) : ({ o with lh := false, lt := 0, lc := 0, lu := 0 } : Ob) = o := by cases o; simp_all
theorem d2_eq {o : Ob} (h : o.d2 = ⟨false, 0⟩) : ({ o with d2 := ⟨false, 0⟩ } : Ob) = o := by cases o; simp_all
theorem d3_eq {o : Ob} (h : o.d3 = ⟨false, 0⟩) : ({ o with d3 := ⟨false, 0⟩ } : Ob) = o := by cases o; simp_all
theorem drop_put {o : Ob} {k : Kd} {v : It} (hz : OxZ o) (hk : whN (remW k) = true) (h1 : manyK k = false → getK o k = []) (x : Dt) : { dropK { putK o (getK o k).length v k with d9 := x } (getK o k).length k with d9 := o.d9 } = o := by
 cases k with
 | nam =>
  simp only [getK, putK, dropK, List.length_map, putL_end, dropL_end]
 | lnk =>
  simp only [getK, putK, dropK, List.length_map, putL_end, dropL_end]
 | lim =>
  have h := h1 rfl
  simp only [getK] at h
  cases hl : o.lh with
  | true => rw [hl] at h; cases h
  | false =>
   obtain ⟨a, b, c⟩ := hz.l hl
   exact lim_eq hl a b c
 | cus s =>
  have hl := cus_len o s
  rw [hl]
  simp only [putK, dropK, place_end, putL_end, placesL_snoc, beqBytes_iff.2, Nat.zero_add, List.getElem?_append_right (Nat.le_refl _), Nat.sub_self, List.getElem?_cons_zero, Option.getD_some, dropL_end]
 | dat k =>
  have h := h1 rfl
  simp only [getK] at h
  match k, hk with
  | 2, _ =>
   cases hl : o.d2.has with
   | true => rw [show dateAt o 2 = o.d2 from rfl, hl] at h; cases h
   | false =>
    have hz : o.d2.t = 0 := hz.d 2 hl
    have e : o.d2 = ⟨false, 0⟩ := by rw [show o.d2 = ⟨o.d2.has, o.d2.t⟩ from rfl, hl, hz]
    exact d2_eq e
  | 3, _ =>
   cases hl : o.d3.has with
   | true => rw [show dateAt o 3 = o.d3 from rfl, hl] at h; cases h
   | false =>
    have hz : o.d3.t = 0 := hz.d 3 hl
    have e : o.d3 = ⟨false, 0⟩ := by rw [show o.d3 = ⟨o.d3.has, o.d3.t⟩ from rfl, hl, hz]
    exact d3_eq e
 | _ => cases hk
theorem there_many {o : Ob} {k : Kd} (h : manyK k = true) : thereK o k = (getK o k).length := by
 rw [thereK, h]
 match getK o k with
 | [] => rfl
 | [_] => rfl
 | _ :: _ :: _ => rfl
theorem more_fine {o : Ob} {k : Kd} {s : List UInt8} {v : It} (h : (moreK o k ⟨s, .ofNat (getK o k).length, v⟩).2 = 0) :
  rightK o v k = true ∧ (manyK k = false → getK o k = []) ∧ soundB (putK o (getK o k).length v k) = true ∧ moreK o k ⟨s, .ofNat (getK o k).length, v⟩ = (putK o (getK o k).length v k, 0) := by
 have hl : (laidK o k (getK o k).length v).2 = 0 → soundB (putK o (getK o k).length v k) = true ∧ laidK o k (getK o k).length v = (putK o (getK o k).length v k, 0) := fun h => by
  unfold laidK at h ⊢
  cases hs : soundB (putK o (getK o k).length v k) with
  | false => rw [hs] at h; cases h
  | true => exact ⟨rfl, rfl⟩
 unfold moreK at h ⊢
 cases hm : manyK k with
 | true =>
  simp only [hm, there_many hm, beqInt_iff.2, Bool.not_true, Bool.false_and] at h ⊢
  cases hr : rightK o v k with
  | false => rw [hr] at h; cases h
  | true =>
  rw [hr] at h
  cases h3 : roomK o k with
  | false => rw [h3] at h; cases h
  | true =>
  rw [h3] at h
  cases h4 : twiceK o k v (-1) with
  | true => rw [h4] at h; cases h
  | false =>
  rw [h4] at h
  exact ⟨rfl, (fun e => by cases e), hl h⟩
 | false =>
  simp only [hm, Bool.not_false, Bool.true_and] at h ⊢
  cases hi : beqInt (.ofNat (getK o k).length) 0 with
  | false => rw [hi] at h; cases h
  | true =>
  rw [hi] at h
  have h0 : (getK o k).length = 0 := Int.ofNat.inj (beqInt_iff.1 hi)
  rw [h0] at hl ⊢
  cases h2 : ltInt 0 (.ofNat (thereK o k)) with
  | true => rw [h2] at h; cases h
  | false =>
  rw [h2] at h
  cases hr : rightK o v k with
  | false => rw [hr] at h; cases h
  | true =>
  rw [hr] at h
  cases h3 : roomK o k with
  | false => rw [h3] at h; cases h
  | true =>
  rw [h3] at h
  cases h4 : twiceK o k v (-1) with
  | true => rw [h4] at h; cases h
  | false =>
  rw [h4] at h
  exact ⟨rfl, fun _ => List.eq_nil_of_length_eq_zero h0, hl h⟩
theorem add_fine {c : Bool} {o : Ob} {s : List UInt8} {v : It} {now : Int} (h : (addS c o ⟨s, .ofNat (ofS c o s).length, v⟩ now).2 = 0) :
  ∃ k, findK c s = some k ∧ whN (addW k) = true ∧ o.arch = false ∧ whB o (addW k) = true ∧ rightK o v k = true ∧ (manyK k = false → getK o k = []) ∧ soundB (putK o (getK o k).length v k) = true ∧
   addS c o ⟨s, .ofNat (ofS c o s).length, v⟩ now = ({ putK o (getK o k).length v k with d9 := ⟨true, now⟩ }, 0) := by
 unfold addS at h ⊢
 dsimp only at h ⊢
 cases hk : findK c s with
 | none => rw [hk] at h; cases h
 | some k =>
  have hlen : (ofS c o s).length = (getK o k).length := by rw [ofS, hk]; exact tell_length _ _ _
  rw [hlen] at h ⊢
  rw [hk] at h
  dsimp only at h ⊢
  refine ⟨k, rfl, ?_⟩
  cases hw : whN (addW k) with
  | false => rw [hw] at h; cases h
  | true =>
  rw [hw] at h
  cases ha : o.arch with
  | true => rw [ha] at h; cases h
  | false =>
  rw [ha] at h
  cases hb : whB o (addW k) with
  | false => rw [hb] at h; cases h
  | true =>
  rw [hb] at h
  dsimp only at h ⊢
  have hm : (moreK o k ⟨s, .ofNat (getK o k).length, v⟩).2 = 0 := by
   cases hz : beqInt (moreK o k ⟨s, .ofNat (getK o k).length, v⟩).2 0 with
   | true => exact beqInt_iff.1 hz
   | false =>
    unfold chg at h
    rw [hz] at h
    exact h
  obtain ⟨h1, h2, h3, h4⟩ := more_fine hm
  refine ⟨rfl, rfl, rfl, h1, h2, h3, ?_⟩
  rw [h4]
  rfl
theorem rem_no {k : Kd} (h : whN (addW k) = true) (h0 : whN (remW k) = false) : nameK k = nameK (.dat 1) ∨ nameK k = nameK (.dat 4) := by
 have hb := add_b h
 cases k with
 | dat k =>
  match k, hb with
  | 1, _ => exact .inl rfl
  | 2, _ => cases h0
  | 3, _ => cases h0
  | 4, _ => exact .inr rfl
 | _ => first | exact absurd hb (by decide) | cases h0
theorem rem_wh {o : Ob} {k : Kd} {v : It} (h0 : whN (remW k) = true) (hw : whB o (addW k) = true) (hr : rightK o v k = true) (h1 : manyK k = false → getK o k = []) (x : Dt) : whB { putK o (getK o k).length v k with d9 := x } (remW k) = true := by
 cases k with
 | lim =>
  have h := h1 rfl
  simp only [getK] at h
  cases hl : o.lh with
  | true => rw [hl] at h; cases h
  | false =>
   simp only [rightK, Bool.and_eq_true, hl, Bool.false_or] at hr
   have h2 := hr.2.1
   have h3 := hr.2.2
   have e0 : ∀ l : List It, liB l = true → fullB l = true → beqInt (itN ((l[1]?).getD v)) (itN ((l[0]?).getD v)) = true := fun l k1 k2 => by
    match l, k1, k2 with
    | [a, b, c], _, k2 => exact k2
   exact e0 _ h2 h3
 | dat k =>
  match k, h0 with
  | 2, _ => exact hw
  | 3, _ => exact hw
 | _ => first | rfl | cases h0
theorem back_law {c : Bool} {o : Ob} {s : List UInt8} {v : It} (hz : OxZ o) (h : (addS c o ⟨s, .ofNat (ofS c o s).length, v⟩ 9).2 = 0) :
  ∃ p, addS c o ⟨s, .ofNat (ofS c o s).length, v⟩ 9 = (p, 0) ∧ (ofS c p s)[(ofS c o s).length]? = some ⟨s, .ofNat (ofS c o s).length, v⟩ ∧ p.d9 = ⟨true, 9⟩ ∧ soundB p = true ∧
   ((∃ q, delS c p s (.ofNat (ofS c o s).length) 9 = (q, 0) ∧ { q with d9 := o.d9 } = o) ∨ ((delS c p s (.ofNat (ofS c o s).length) 9) = (zO, 7) ∧ (s = nameK (.dat 1) ∨ s = nameK (.dat 4)))) := by
 obtain ⟨k, hk, hw, ha, hb, hr, h1, hs, he⟩ := add_fine h
 have hlen : (ofS c o s).length = (getK o k).length := by rw [ofS, hk]; exact tell_length _ _ _
 have hab := add_b hw
 refine ⟨_, he, ?_, rfl, hs, ?_⟩
 ·rw [hlen, ofS, hk]
  dsimp only
  rw [get_d9 hab, get_put hab hr h1]
  generalize getK o k = l
  have : ∀ (l : List It) (i : Nat), (tellL s (l ++ [v]) i)[l.length]? = some ⟨s, .ofNat (i + l.length), v⟩ := by
   intro l
   induction l with
   | nil => intro i; rfl
   | cons a r ih =>
    intro i
    have := ih (i + 1)
    rw [show i + 1 + r.length = i + (r.length + 1) by omega] at this
    simpa [tellL] using this
  have h2 := this l 0
  rw [Nat.zero_add] at h2
  exact h2
 ·have e1 : ({ putK o (getK o k).length v k with d9 := ⟨true, 9⟩ } : Ob).arch = false := (put_arch o _ v k).trans ha
  have e2 := (get_d9 hab (o := putK o (getK o k).length v k) ⟨true, 9⟩).trans (get_put hab hr h1)
  have e3 : whN (remW k) = true → whB ({ putK o (getK o k).length v k with d9 := ⟨true, 9⟩ } : Ob) (remW k) = true := fun h0 => rem_wh h0 hb hr h1 ⟨true, 9⟩
  have e4 : whN (remW k) = true → _ := fun h0 => drop_put (v := v) hz h0 h1 ⟨true, 9⟩
  revert e1 e2 e3 e4
  generalize ({ putK o (getK o k).length v k with d9 := ⟨true, 9⟩ } : Ob) = p
  intro e1 e2 e3 e4
  unfold delS
  rw [hk, hlen]
  dsimp only
  cases h0 : whN (remW k) with
  | false =>
   refine .inr ⟨rfl, ?_⟩
   have hn := (find_kd hk).2
   rw [← hn]
   exact rem_no hw h0
  | true =>
   refine .inl ?_
   dsimp only
   rw [e1, e2, e3 h0]
   have hl : (ltInt (.ofNat (getK o k).length) 0 || !ltInt (.ofNat (getK o k).length) (.ofNat (getK o k ++ [v]).length)) = false := by
    rw [Bool.or_eq_false_iff, Bool.not_eq_false', ltInt_iff, ltInt_false]
    simp only [Int.ofNat_eq_natCast, List.length_append, List.length_singleton]
    omega
   rw [hl]
   exact ⟨_, rfl, e4 h0⟩
end Go.Proofs.YtjhggnebkfpgcaaGreatDoor
