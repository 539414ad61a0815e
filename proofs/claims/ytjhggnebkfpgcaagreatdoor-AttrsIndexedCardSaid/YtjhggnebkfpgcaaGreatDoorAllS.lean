/- All attributes of an object, their names, as they are told. -/
import Derived.Test.YtjhggnebkfpgcaaGreatDoorOSame
import Derived.Test.YtjhggnebkfpgcaaGreatDoorOkay
import Derived.KernelRfl
namespace Go.Proofs.YtjhggnebkfpgcaaGreatDoor
open Go Go.RowKit
open Go.Proofs.Abs
def cntC (s : List UInt8) (l : List Cu) : Nat := (l.filter fun c => beqBytes c.name s).length
def cusTl : List Cu → List Cu → List At
 | _, [] => []
 | pre, c :: r => ⟨c.name, .ofNat (cntC c.name pre), txt c.text⟩ :: cusTl (pre ++ [c]) r
def stdT (o : Ob) : List Kd → List At
 | [] => []
 | k :: r => tellL (nameK k) (getK o k) 0 ++ stdT o r
def allS (o : Ob) : List At := stdT o kinds ++ cusTl [] o.cust
def ofN (s : List UInt8) (l : List At) : List At := l.filter fun a => beqBytes a.name s
theorem ofN_app (s : List UInt8) (l r : List At) : ofN s (l ++ r) = ofN s l ++ ofN s r := List.filter_append ..
theorem beqBytes_no {a b : List UInt8} (h : a ≠ b) : beqBytes a b = false := by
 cases hb : beqBytes a b with
 | false => rfl
 | true => exact absurd (beqBytes_iff.1 hb) h
theorem ofN_tell_same (s : List UInt8) : ∀ (l : List It) (i : Nat), ofN s (tellL s l i) = tellL s l i
 | [], _ => rfl
 | v :: r, i => by
  have ih := ofN_tell_same s r (i + 1)
  unfold ofN at ih ⊢
  rw [tellL, List.filter_cons, ih, if_pos (beqBytes_iff.2 rfl)]
theorem ofN_tell_no {s n : List UInt8} (h : n ≠ s) : ∀ (l : List It) (i : Nat), ofN s (tellL n l i) = []
 | [], _ => rfl
 | v :: r, i => by
  have ih := ofN_tell_no h r (i + 1)
  unfold ofN at ih ⊢
  rw [tellL, List.filter_cons, ih, beqBytes_no h]
  rfl
theorem findL_none {s : List UInt8} : ∀ {l : List Kd}, (∀ k ∈ l, nameK k ≠ s) → findL s l = none
 | [], _ => rfl
 | a :: r, h => by rw [findL, beqBytes_no (h a (by simp)), findL_none fun k hk => h k (by simp [hk])]
theorem ofN_std_no (o : Ob) {s : List UInt8} : ∀ {l : List Kd}, (∀ k ∈ l, nameK k ≠ s) → ofN s (stdT o l) = []
 | [], _ => rfl
 | a :: r, h => by rw [stdT, ofN_app, ofN_tell_no (h a (by simp)), ofN_std_no o fun k hk => h k (by simp [hk])]; rfl
theorem ofN_std (o : Ob) (s : List UInt8) : ∀ {l : List Kd}, (l.map nameK).Nodup → ofN s (stdT o l) = match findL s l with
  | none => []
  | some k => tellL s (getK o k) 0
 | [], _ => rfl
 | a :: r, h => by
  rw [List.map_cons, List.nodup_cons] at h
  rw [stdT, ofN_app, findL]
  cases hb : beqBytes (nameK a) s with
  | true =>
   have e := beqBytes_iff.1 hb
   subst e
   rw [ofN_tell_same, ofN_std_no o fun k hk e => h.1 (List.mem_map.2 ⟨k, hk, e⟩), List.append_nil]
  | false =>
   have e : nameK a ≠ s := fun e => by rw [beqBytes_iff.2 e] at hb; cases hb
   rw [ofN_tell_no e, ofN_std o s h.2, List.nil_append]
theorem cntC_snoc (s : List UInt8) (pre : List Cu) (c : Cu) : cntC s (pre ++ [c]) = cntC s pre + (match beqBytes c.name s with | true => 1 | false => 0) := by
 unfold cntC
 rw [List.filter_append, List.length_append, List.filter_cons]
 cases beqBytes c.name s <;> rfl
theorem ofN_cus (s : List UInt8) : ∀ (l pre : List Cu), ofN s (cusTl pre l) = tellL s ((l.filter fun c => beqBytes c.name s).map fun c => txt c.text) (cntC s pre)
 | [], _ => rfl
 | c :: r, pre => by
  have ih := ofN_cus s r (pre ++ [c])
  rw [cntC_snoc] at ih
  unfold ofN at ih ⊢
  rw [cusTl, List.filter_cons, ih, List.filter_cons]
  cases hb : beqBytes c.name s with
  | true =>
   have e := beqBytes_iff.1 hb
   subst e
   rfl
  | false => rfl
structure CusOk (c : Bool) (s : List UInt8) (o : Ob) : Prop where
 t : c = true → ∀ k ∈ kinds, nameK k ≠ s
 f : c = false → ∀ x ∈ o.cust, x.name ≠ s
theorem kinds_nodup : (kinds.map nameK).Nodup := by decide
theorem of_all {c : Bool} {s : List UInt8} {o : Ob} (h : CusOk c s o) : ofN s (allS o) = ofS c o s := by
 rw [allS, ofN_app, ofN_std o s kinds_nodup, ofN_cus, ofS]
 cases c with
 | true =>
  rw [findL_none (h.t rfl)]
  rfl
 | false =>
  have hf : (o.cust.filter fun c => beqBytes c.name s) = [] := List.filter_eq_nil_iff.2 fun x hx => by rw [beqBytes_no (h.f rfl x hx)]; simp
  rw [hf]
  rw [show ([] : List Cu).map (fun c => txt c.text) = [] from rfl, show ∀ n, tellL s [] n = [] from fun _ => rfl, List.append_nil]
  rfl
def inN (s : List UInt8) (l : List (List UInt8)) : Bool := l.any fun x => beqBytes x s
theorem inN_iff {s : List UInt8} {l : List (List UInt8)} : inN s l = true ↔ s ∈ l := by
 rw [inN, List.any_eq_true]
 exact ⟨fun ⟨x, h1, h2⟩ => by rw [beqBytes_iff] at h2; subst h2; exact h1, fun h => ⟨s, h, beqBytes_iff.2 rfl⟩⟩
def nmS : List (List UInt8) → List At → List (List UInt8)
 | out, [] => out
 | out, a :: r => match inN a.name out with
  | true => nmS out r
  | false => nmS (out ++ [a.name]) r
theorem nmS_nodup : ∀ (l : List At) (out : List (List UInt8)), out.Nodup → (nmS out l).Nodup
 | [], _, h => h
 | a :: r, out, h => by
  rw [nmS]
  cases hi : inN a.name out with
  | true => exact nmS_nodup r out h
  | false =>
   refine nmS_nodup r _ (nodup_snoc h fun hm => ?_)
   rw [inN_iff.2 hm] at hi; cases hi
theorem nmS_out : ∀ (l : List At) (out : List (List UInt8)) {s : List UInt8}, s ∈ out → s ∈ nmS out l
 | [], _, _, h => h
 | a :: r, out, s, h => by
  rw [nmS]
  split
  ·exact nmS_out r out h
  ·exact nmS_out r _ (List.mem_append.2 (.inl h))
theorem nmS_all : ∀ (l : List At) (out : List (List UInt8)), ∀ a ∈ l, a.name ∈ nmS out l
 | [], _, _, h => by cases h
 | b :: r, out, a, h => by
  rw [nmS]
  rcases List.mem_cons.1 h with e | h
  ·subst e
   cases hi : inN a.name out with
   | true => exact nmS_out r out (inN_iff.1 hi)
   | false => exact nmS_out r _ (by simp)
  ·split
   ·exact nmS_all r out a h
   ·exact nmS_all r _ a h
theorem nmS_from : ∀ (l : List At) (out : List (List UInt8)) {s : List UInt8}, s ∈ nmS out l → s ∈ out ∨ ∃ a ∈ l, a.name = s
 | [], _, _, h => .inl h
 | a :: r, out, s, h => by
  rw [nmS] at h
  split at h
  ·rcases nmS_from r out h with h | ⟨b, h1, h2⟩
   ·exact .inl h
   ·exact .inr ⟨b, by simp [h1], h2⟩
  ·rcases nmS_from r _ h with h | ⟨b, h1, h2⟩
   ·rcases List.mem_append.1 h with h | h
    ·exact .inl h
    ·rw [List.mem_singleton] at h
     exact .inr ⟨a, by simp, h.symm⟩
   ·exact .inr ⟨b, by simp [h1], h2⟩
def namesS (o : Ob) : List (List UInt8) := nmS [] (allS o)
def sumN : List Nat → Nat
 | [] => 0
 | a :: r => a + sumN r
theorem sum_one {s : List UInt8} : ∀ {ns : List (List UInt8)}, ns.Nodup → s ∈ ns → ∀ f : List UInt8 → Nat, sumN (ns.map fun x => (match beqBytes s x with | true => 1 | false => 0) + f x) = 1 + sumN (ns.map f)
 | [], _, h, _ => by cases h
 | x :: r, hn, h, f => by
  rw [List.nodup_cons] at hn
  have hz : ∀ {ns : List (List UInt8)}, s ∉ ns → sumN (ns.map fun x => (match beqBytes s x with | true => 1 | false => 0) + f x) = sumN (ns.map f) := by
   intro ns
   induction ns with
   | nil => intro _; rfl
   | cons y t ih =>
    intro hs
    rw [List.map_cons, List.map_cons, sumN, sumN, ih fun h => hs (by simp [h]), beqBytes_no fun e => hs (by simp [e])]
    dsimp only
    omega
  rw [List.map_cons, List.map_cons, sumN, sumN]
  rcases List.mem_cons.1 h with e | h'
  ·rw [← e] at hn ⊢
   rw [hz hn.1, beqBytes_iff.2 rfl]
   dsimp only
   omega
  ·have hne : s ≠ x := fun e => hn.1 (e ▸ h')
   rw [sum_one hn.2 h' f, beqBytes_no hne]
   dsimp only
   omega
theorem sum_names {ns : List (List UInt8)} (hn : ns.Nodup) : ∀ {l : List At}, (∀ a ∈ l, a.name ∈ ns) → sumN (ns.map fun s => (ofN s l).length) = l.length
 | [], _ => by
  have : ∀ ns : List (List UInt8), sumN (ns.map fun s => (ofN s []).length) = 0 := by
   intro ns
   induction ns with
   | nil => rfl
   | cons a r ih => rw [List.map_cons, sumN, ih]; rfl
  exact this ns
 | a :: r, h => by
  have ih := sum_names hn (l := r) fun b hb => h b (by simp [hb])
  have e : (fun s => (ofN s (a :: r)).length) = fun s => (match beqBytes a.name s with | true => 1 | false => 0) + (ofN s r).length := funext fun s => by
   unfold ofN
   rw [List.filter_cons]
   cases beqBytes a.name s with
   | true => simp; omega
   | false => simp
  rw [e, sum_one hn (h a (by simp)), ih, List.length_cons]
  omega
theorem nodup_map {α β : Type} {f : α → β} : ∀ {l : List α}, l.Nodup → (∀ x ∈ l, ∀ y ∈ l, f x = f y → x = y) → (l.map f).Nodup
 | [], _, _ => .nil
 | a :: r, h, hf => by
  rw [List.nodup_cons] at h
  rw [List.map_cons, List.nodup_cons]
  refine ⟨fun hm => ?_, nodup_map h.2 fun x hx y hy => hf x (by simp [hx]) y (by simp [hy])⟩
  obtain ⟨b, hb, e⟩ := List.mem_map.1 hm
  have := hf b (by simp [hb]) a (by simp) e
  subst this
  exact h.1 hb
theorem get_nodup {o : Ob} (h : OxF o) (k : Kd) : (getK o k).Nodup := by
 have one : ∀ (b : Bool) (x : It), (oneL b x).Nodup := fun b x => by cases b <;> simp [oneL]
 cases k with
 | nam => exact nodup_map h.i.n2 fun x _ y _ e => by simpa [txt, vlV] using e
 | lnk =>
  refine nodup_map h.i.l2 fun x _ y _ e => ?_
  obtain ⟨a, b⟩ := x
  obtain ⟨c, d⟩ := y
  simpa [lkI, whl, prt, vlV] using e
 | cus s =>
  refine nodup_map (h.i.c2.sublist List.filter_sublist) fun x hx y hy e => ?_
  have h1 := beqBytes_iff.1 (List.mem_filter.1 hx).2
  have h2 := beqBytes_iff.1 (List.mem_filter.1 hy).2
  obtain ⟨a, b⟩ := x
  obtain ⟨c, d⟩ := y
  simp only at h1 h2
  subst h1 h2
  simpa [txt, vlV] using e
 | alg => exact one _ _
 | len => exact one _ _
 | dat k => exact one _ _
 | why => exact one _ _
 | lim => exact one _ _
 | uid => simp [getK]
 | typ => simp [getK]
 | mask => simp [getK]
 | sta => simp [getK]
theorem get_one {o : Ob} {k : Kd} (h : manyK k = false) : (getK o k).length ≤ 1 := by
 cases k with
 | nam => cases h
 | lnk => cases h
 | cus s => cases h
 | alg => exact one_len
 | len => exact one_len
 | dat k => exact one_len
 | why => exact one_len
 | lim => exact one_len
 | _ => exact Nat.le_refl _
theorem all_len (o : Ob) : 4 ≤ (allS o).length := by
 simp only [allS, kinds, stdT, List.length_append, tell_length]
 simp only [getK, List.length_singleton]
 omega
theorem tell_name {s : List UInt8} {a : At} : ∀ {l : List It} {i : Nat}, a ∈ tellL s l i → a.name = s
 | [], _, h => by cases h
 | v :: r, i, h => by
  rcases List.mem_cons.1 h with h | h
  ·subst h; rfl
  ·exact tell_name h
theorem std_name {o : Ob} {a : At} : ∀ {l : List Kd}, a ∈ stdT o l → ∃ k ∈ l, a.name = nameK k
 | [], h => by cases h
 | k :: r, h => by
  rcases List.mem_append.1 h with h | h
  ·exact ⟨k, by simp, tell_name h⟩
  ·obtain ⟨j, h1, h2⟩ := std_name h
   exact ⟨j, by simp [h1], h2⟩
theorem cusTl_name {a : At} : ∀ {l pre : List Cu}, a ∈ cusTl pre l → ∃ c ∈ l, a.name = c.name
 | [], _, h => by cases h
 | c :: r, pre, h => by
  rcases List.mem_cons.1 h with h | h
  ·subst h; exact ⟨c, by simp, rfl⟩
  ·obtain ⟨d, h1, h2⟩ := cusTl_name h
   exact ⟨d, by simp [h1], h2⟩
theorem all_in {o : Ob} (h : OxF o) {a : At} (ha : a ∈ allS o) : a.name ∈ nameL := by
 rcases List.mem_append.1 ha with ha | ha
 ·obtain ⟨k, h1, h2⟩ := std_name ha
  rw [h2]
  exact (by decide : ∀ k ∈ kinds, nameK k ∈ nameL) k h1
 ·obtain ⟨c, h1, h2⟩ := cusTl_name ha
  rw [h2]
  exact (by decide : ∀ n ∈ cnL, n ∈ nameL) _ (h.i.c3 c h1).1
theorem names_all {o : Ob} {s : List UInt8} (hs : s ∈ namesS o) : ∃ a ∈ allS o, a.name = s := by
 rcases nmS_from _ _ hs with h | h
 ·cases h
 ·exact h
theorem names_in {o : Ob} (h : OxF o) {s : List UInt8} (hs : s ∈ namesS o) : s ∈ nameL := by
 obtain ⟨a, h1, h2⟩ := names_all hs
 rw [← h2]
 exact all_in h h1
theorem names_ne {o : Ob} {s : List UInt8} (hs : s ∈ namesS o) : ofN s (allS o) ≠ [] := by
 obtain ⟨a, h1, h2⟩ := names_all hs
 intro e
 have : a ∈ ofN s (allS o) := List.mem_filter.2 ⟨h1, beqBytes_iff.2 h2⟩
 rw [e] at this
 cases this
theorem names_nodup (o : Ob) : (namesS o).Nodup := nmS_nodup _ _ .nil
theorem names_sum (o : Ob) : sumN ((namesS o).map fun s => (ofN s (allS o)).length) = (allS o).length := sum_names (names_nodup o) fun a ha => nmS_all _ _ a ha
theorem cusOk_of {o : Ob} (h : OxF o) {s : List UInt8} (hs : s ∈ nameL) : CusOk (cusB s) s o :=
 ⟨fun hc => (by decide : ∀ s ∈ nameL, cusB s = true → ∀ k ∈ kinds, nameK k ≠ s) s hs hc, fun hc x hx e => by
  have := (by decide : ∀ n ∈ cnL, cusB n = true) _ (h.i.c3 x hx).1
  rw [e, hc] at this
  cases this⟩
theorem tell_get {s : List UInt8} {v : It} : ∀ {l : List It} {i k : Nat}, l[k]? = some v → (tellL s l i)[k]? = some ⟨s, .ofNat (i + k), v⟩
 | [], _, _, h => by simp at h
 | a :: r, i, 0, h => by
  simp at h; subst h; rfl
 | a :: r, i, k + 1, h => by
  have ih := tell_get (s := s) (i := i + 1) (k := k) (l := r) (by simpa using h)
  rw [show i + 1 + k = i + (k + 1) by omega] at ih
  simpa [tellL] using ih
theorem names_kd {o : Ob} (h : OxF o) {s : List UInt8} (hs : s ∈ namesS o) : ∃ k, findK (cusB s) s = some k ∧ ofS (cusB s) o s = tellL s (getK o k) 0 ∧ getK o k ≠ [] ∧ (ofN s (allS o)).length = (getK o k).length := by
 have e := of_all (cusOk_of h (names_in h hs))
 have hne := names_ne hs
 rw [e] at hne ⊢
 cases hk : findK (cusB s) s with
 | none => rw [ofS, hk] at hne; exact absurd rfl hne
 | some k =>
  have ek : ofS (cusB s) o s = tellL s (getK o k) 0 := by rw [ofS, hk]
  refine ⟨k, rfl, ek, fun e0 => ?_, by rw [ek, tell_length]⟩
  rw [ek, e0] at hne
  exact absurd rfl hne
theorem sum_take (f : List UInt8 → Nat) {s : List UInt8} : ∀ {ns : List (List UInt8)} {i : Nat}, ns[i]? = some s → sumN ((ns.take (i + 1)).map f) = sumN ((ns.take i).map f) + f s
 | [], _, h => by simp at h
 | a :: r, 0, h => by
  simp at h; subst h
  simp [sumN]
 | a :: r, i + 1, h => by
  have ih := sum_take f (ns := r) (i := i) (by simpa using h)
  simp only [List.take_succ_cons, List.map_cons, sumN, ih]
  omega
theorem sum_le (f : List UInt8 → Nat) : ∀ (ns : List (List UInt8)) (i : Nat), sumN ((ns.take i).map f) ≤ sumN (ns.map f)
 | [], i => by simp
 | a :: r, 0 => by simp [sumN]
 | a :: r, i + 1 => by
  have := sum_le f r i
  simp only [List.take_succ_cons, List.map_cons, sumN]
  omega
end Go.Proofs.YtjhggnebkfpgcaaGreatDoor
