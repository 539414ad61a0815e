/- The abstract machine in continuation form says but what is so. -/
import Derived.Test.YtnlllfokomenfaaGreatDoorE34
namespace Go.Proofs.Abs
open Go

theorem oblB_iff {b : Bool} {K : Prop} : oblB b K ↔ b = true ∧ K := by cases b <;> simp [oblB]

theorem mtB_of {b : Bool} {T F : Prop} (ht : b = true → T) (hf : b = false → F) : mtB b T F := by cases b <;> simp_all [mtB]
theorem mtB_iff {b : Bool} {T F : Prop} : mtB b T F ↔ (b = true → T) ∧ (b = false → F) := by cases b <;> simp [mtB]

section
variable {P : Program}

theorem eqF_ok {eq eq' : TypeId → AV → AV → Option Bool} (h : ∀ t x y r, eq t x y = some r → eq' t x y = some r) : ∀ (fs : List Field) (xs ys : List AV) (r : Bool), eqF P eq fs xs ys = some r → equalF P eq' fs xs ys = some r
  | [], xs, ys, r, hr => by simpa [eqF, equalF] using hr
  | f :: fs, xs, ys, r, hr => by
    simp only [eqF] at hr
    simp only [equalF]
    split at hr
    · rename_i hn; simp only [hn]; exact eqF_ok h fs xs ys r hr
    · rename_i hn
      simp only [hn]
      split at hr
      · rename_i a b ha hb
        simp only [ha, hb]
        split at hr
        · rename_i p q hp hq
          simp only [Option.some.injEq] at hr
          subst hr
          rw [h _ _ _ _ hp]
          cases p with
          | true => simpa using eqF_ok h fs xs ys q hq
          | false => rfl
        · cases hr
      · cases hr

theorem eqB_ok : ∀ (d : Nat) (t : TypeId) (x y : AV) (r : Bool), eqB P d t x y = some r → equalA P d t x y = some r
  | 0, _, _, _, _, h => by simp [eqB] at h
  | d + 1, t, x, y, r, h => by
    unfold eqB at h
    split at h
    · rename_i xs ys
      split at h
      · rename_i fs hu
        split at h
        · cases h
        · rename_i hs
          unfold equalA
          simp only [hu, hs]
          exact eqF_ok (eqB_ok d) _ _ _ _ h
      · cases h
    · exact h

theorem natS_ok {w : AV} {b : Bool} {k : Nat} (h : natS w = some (b, k)) (hb : b = true) : natOf w = some k := by
  unfold natS at h
  split at h
  · rename_i kd n
    simp only [Option.some.injEq, Prod.mk.injEq] at h
    obtain ⟨rfl, rfl⟩ := h
    cases n with
    | ofNat m => rfl
    | negSucc m => cases hb
  · cases h
theorem optS_ok {w : Option AV} {b : Bool} {k : Option Nat} (h : optS w = some (b, k)) (hb : b = true) : optNat w = some k := by
  unfold optS at h
  split at h
  · simp only [Option.some.injEq, Prod.mk.injEq] at h
    obtain ⟨_, rfl⟩ := h; rfl
  · rename_i v
    split at h
    · rename_i b' n hn
      simp only [Option.some.injEq, Prod.mk.injEq] at h
      obtain ⟨rfl, rfl⟩ := h
      simp [optNat, natS_ok hn hb]
    · cases h

theorem chunk_drop : ∀ (l : List AV) (o n : Nat), o + n ≤ l.length → chunk l o n = some ((l.drop o).take n)
  | l, o, 0, _ => by cases l <;> simp [chunk]
  | [], o, n + 1, h => by simp at h
  | a :: t, 0, n + 1, h => by
    simp only [List.length_cons] at h
    simp [chunk, chunk_drop t 0 n (by omega)]
  | a :: t, o + 1, n + 1, h => by
    simp only [List.length_cons] at h
    simp [chunk, chunk_drop t o (n + 1) (by omega)]

theorem srcS_ok {i : TypeInfo} {xd : TypeDesc} {z x : AV} {b : Bool} {m : Nat} {cs : List AV} {k : Nat → List AV → Option Eff} (hx : isSrc xd = true) (h : srcS i.size x = some (b, m, cs)) (hb : b = true) : appSrc xd i.size i.bytes z x k = k m cs := by
  have e : appSrc xd i.size i.bytes z x k = srcA i.size x k := by
    cases xd <;> first | (cases hx; done) | rfl
  rw [e]
  unfold srcS at h
  split at h
  · simp only [Option.some.injEq, Prod.mk.injEq] at h
    obtain ⟨rfl, rfl, rfl⟩ := h
    simp [srcA, hb]
  · simp only [Option.some.injEq, Prod.mk.injEq] at h
    obtain ⟨rfl, rfl, rfl⟩ := h; rfl
  · simp only [Option.some.injEq, Prod.mk.injEq] at h
    obtain ⟨rfl, rfl, rfl⟩ := h
    simp only [srcA, hb, if_true]
  · cases h

theorem appendS_ok {argTypes : Array TypeId} {s x : AV} {es : ES} (h : appendS P argTypes s x = some es) : es.ok (appendA P argTypes s x) := by
  unfold appendS at h
  split at h
  · rename_i st xt h1 h2
    split at h
    · rename_i e xd h3 h4
      split at h
      · rename_i i z hx hi hz
        split at h
        · cases h
        · rename_i hc
          split at h
          · rename_i b m cs hsrc
            have hA : ∀ k, b = true → appSrc xd i.size i.bytes z x k = k m cs := fun k hb => srcS_ok hx hsrc hb
            unfold appendA
            simp only [h1, h2, h3, h4, hi, hz]
            rw [Bool.or_eq_false_iff, Bool.or_eq_false_iff] at hc
            obtain ⟨⟨c1, c2⟩, c3⟩ := hc
            simp only [c1, c2, c3, Bool.or_self, Bool.false_eq_true, if_false]
            unfold appendK at h
            split at h
            · split at h
              · rename_i hm
                simp only [Option.some.injEq] at h; subst h
                intro hb
                rw [hA _ hb]; simp [hm]
              · rename_i hm
                simp only [Option.some.injEq] at h; subst h
                intro hb
                rw [Bool.and_eq_true] at hb
                rw [hA _ hb.1]; simp only [hm, hb.2, Bool.false_eq_true, if_false, if_true]
            · split at h
              · rename_i hm
                simp only [Option.some.injEq] at h; subst h
                intro hb
                rw [hA _ hb]; simp [hm]
              · rename_i hm
                simp only [Option.some.injEq] at h; subst h
                intro hb
                rw [Bool.and_eq_true] at hb
                rw [hA _ hb.1]; simp only [hm, hb.2, Bool.false_eq_true, if_false, if_true]
            · rename_i id len sz
              split at h
              · cases h
              · rename_i hm
                simp only [Option.some.injEq] at h; subst h
                intro hb
                rw [Bool.and_eq_true, Bool.and_eq_true] at hb
                obtain ⟨hb, hb1, hb2⟩ := hb
                rw [hA _ hb]
                simp only [hb1, hb2, Bool.true_and, if_true]
                refine ⟨_, rfl, fun l hl => ?_⟩
                have hl := beq_iff.1 hl
                have hm : m ≠ 0 := beq_false_iff.1 hm
                have hs : i.size ≠ 0 := beq_false_iff.1 c1
                have : ¬ ((len + m) * i.size ≤ lenN l) := by
                  rw [hl]
                  intro hle
                  have := Nat.le_of_mul_le_mul_right hle (Nat.pos_of_ne_zero hs)
                  omega
                simp only
                rw [if_neg (by simpa using this), if_pos (by simp [hl])]
                rw [List.take_of_length_le (by rw [← lenN_eq]; omega)]
            · cases h
          · cases h
      · cases h
    · cases h
  · cases h

theorem sliceS_ok {t : TypeId} {x : AV} {lo hi mx : Option AV} {es : ES} (h : sliceS P t x lo hi mx = some es) : es.ok (sliceA P t x lo hi mx) := by
  unfold sliceS at h
  split at h
  · rename_i b1 l b2 hh hl hhi
    split at h
    · rename_i s
      split at h
      · rename_i hu
        simp only [Option.some.injEq] at h; subst h
        intro hb
        simp only [Bool.and_eq_true] at hb
        obtain ⟨k1, k2, k3, k4⟩ := hb
        have q1 := optS_ok hl k1
        have q2 := optS_ok hhi k2
        have q3 : optNat none = some none := rfl
        simp only [sliceA, q1, q2, q3, sliceStr, hu, k3, k4, Option.isNone_none, Bool.and_self]
      · cases h
    · rename_i full es'
      split at h
      · rename_i e he
        split at h
        · rename_i sz hsz
          simp only [Option.some.injEq] at h; subst h
          intro hb
          simp only [Bool.and_eq_true] at hb
          obtain ⟨k1, k2, k3, k4, k5⟩ := hb
          have q1 := optS_ok hl k1
          have q2 := optS_ok hhi k2
          have q3 : optNat none = some none := rfl
          simp only [sliceA, q1, q2, q3, sliceFsl, he, hsz, k3, k4, k5, Bool.and_self, cutA]
          rw [chunk_drop _ _ _ (by rw [← lenN_eq]; rw [Nat.ble_eq] at k4 k5; omega)]
        · cases h
      · cases h
    · rename_i own id off len sz'
      split at h
      · rename_i h0
        split at h
        · rename_i e he
          split at h
          · rename_i sz hsz
            simp only [Option.some.injEq] at h; subst h
            intro hb
            simp only [Bool.and_eq_true] at hb
            obtain ⟨k2, k3, k4⟩ := hb
            have e1 : b1 = true := by
              unfold optS at hl
              split at hl
              · simp only [Option.some.injEq, Prod.mk.injEq] at hl; exact hl.1.symm
              · split at hl
                · simp at hl
                · cases hl
            have q1 := optS_ok hl e1
            have q2 := optS_ok hhi k2
            have q3 : optNat none = some none := rfl
            simp only [sliceA, q1, q2, q3, sliceRsl, he, hsz, k3, Option.getD_none, Option.getD_some, k4, Option.isNone_none, Bool.and_true]
            have k5 : Nat.ble 0 h0 = true := by simp
            simp [rslCut, beq_iff.1 k3, k5]
          · cases h
        · cases h
      · cases h
    · cases h
  · cases h

theorem convS_ok {src dst : TypeId} {x : AV} {es : ES} (h : convS P src dst x = some es) : es.ok (convA P src dst x) := by
  unfold convS at h
  split at h
  · rename_i e f l hs hd
    split at h
    · rename_i hb
      simp only [Option.some.injEq] at h; subst h
      intro hi
      unfold convA
      simp only [hs, hd, hb, convToStr]
      cases hl : bytesOf l with
      | none => rw [hl] at hi; cases hi
      | some s => simp [strO, strOf, hl]
    · cases h
  · cases h

theorem makeS_ok {t : TypeId} {l c : AV} {es : ES} (h : makeS P t l c = some es) : es.ok (makeSliceA P t l c) := by
  unfold makeS at h
  split at h
  · rename_i e b1 l' b2 c' he hl hc
    split at h
    · rename_i i z hi hz
      simp only [Option.some.injEq] at h; subst h
      intro hb
      rw [Bool.and_eq_true, Bool.and_eq_true] at hb
      obtain ⟨k1, k2, k3⟩ := hb
      simp only [makeSliceA, he, natS_ok hl k1, natS_ok hc k2, hi, hz, k3]
    · cases h
  · cases h

theorem splD_ok {l : List AV} {o : Nat} {vs : List AV} (h : o + vs.length ≤ l.length) : splice l o vs = some (splD l o vs) := by
  unfold splD
  rw [lenN_eq]
  exact go l o vs h
 where
  go : ∀ (l : List AV) (o : Nat) (vs : List AV), o + vs.length ≤ l.length → splice l o vs = some (l.take o ++ (vs ++ l.drop (o + vs.length)))
    | l, o, [], _ => by cases l <;> simp [splice]
    | [], o, _ :: _, h => by simp at h
    | a :: t, 0, v :: vs, h => by
      simp only [List.length_cons] at h
      have := go t 0 vs (by omega)
      simp only [splice, this]
      simp
    | a :: t, o + 1, v :: vs, h => by
      simp only [List.length_cons] at h
      have := go t o (v :: vs) (by simp only [List.length_cons]; omega)
      simp only [splice, this]
      simp [show o + 1 + (vs.length + 1) = o + (vs.length + 1) + 1 by omega]

theorem srcS_src {sz : Nat} {x : AV} {b : Bool} {m : Nat} {cs : List AV} {k : Nat → List AV → Option Eff} (h : srcS sz x = some (b, m, cs)) (hb : b = true) : srcA sz x k = k m cs := by
  unfold srcS at h
  split at h
  · simp only [Option.some.injEq, Prod.mk.injEq] at h
    obtain ⟨rfl, rfl, rfl⟩ := h
    simp [srcA, hb]
  · simp only [Option.some.injEq, Prod.mk.injEq] at h
    obtain ⟨rfl, rfl, rfl⟩ := h; rfl
  · simp only [Option.some.injEq, Prod.mk.injEq] at h
    obtain ⟨rfl, rfl, rfl⟩ := h
    simp only [srcA, hb, if_true]
  · cases h

theorem copyS_ok {argTypes : Array TypeId} {d x : AV} {es : ES} (h : copyS P argTypes d x = some es) : es.ok (copyA P argTypes d x) := by
  unfold copyS at h
  split at h
  · rename_i t ht
    split at h
    · rename_i e he
      split at h
      · rename_i sz hsz
        split at h
        · rename_i own id off len s'
          split at h
          · rename_i b m cs hsrc
            simp only [Option.some.injEq] at h; subst h
            intro hb
            rw [Bool.and_eq_true] at hb
            unfold copyA
            simp only [ht, he, hsz, srcS_src hsrc hb.1, hb.2, if_true]
            refine ⟨_, rfl, fun l hl => ?_⟩
            have hl : off + (cs.take (min m len * sz)).length ≤ l.length := by simpa [lenN_eq] using hl
            simp only [splD_ok hl]
          · cases h
        · cases h
      · cases h
    · cases h
  · cases h

theorem storeS_ok {t : TypeId} {a v : AV} {es : ES} (h : storeS P t a v = some es) : es.ok (storeA P t a v) := by
  unfold storeS at h
  split at h
  · rename_i id off
    split at h
    · rename_i n hn
      simp only [Option.some.injEq] at h; subst h
      intro hb
      have hb1 := (Bool.and_eq_true _ _ ▸ hb : _ ∧ _).1
      refine ⟨_, by simp only [storeA, hn, hb, if_true]; rfl, fun l hl => ?_⟩
      have hl : off + v.cells.length ≤ l.length := by
        have h1 := beq_iff.1 hb1
        rw [lenN_eq] at h1
        simpa [lenN_eq, h1] using hl
      simp only [splD_ok hl, Option.map_some]
    · cases h
  · cases h

theorem indexS_ok {t : TypeId} {x i : AV} {es : ES} (h : indexS P t x i = some es) : es.ok (valO (indexAddrA P t x i)) := by
  unfold indexS at h
  split at h
  · rename_i e own id off len sz' b k hu hn
    split at h
    · rename_i sz hsz
      simp only [Option.some.injEq] at h; subst h
      intro hb
      rw [Bool.and_eq_true] at hb
      have q1 := natS_ok hn hb.1
      simp only [indexAddrA, q1, hu, hsz, hb.2, Option.bind_eq_bind, Option.bind_some, if_true, valO]
    · cases h
  · cases h

theorem effB_of {G : Glob} {ops : List Oper} {ev : Operand → Option AV} {o : Oper} (h : notRow o.op = true) : effB P G ops ev o = effA P G ev o := by
  unfold effB
  split
  · rename_i ho _; rw [ho] at h; cases h
  · rfl

theorem effS_ok {G : Glob} {ops : List Oper} {ev : Operand → Option AV} {o : Oper} {es : ES} (h : effS P G ops ev o = some es) : es.ok (effB P G ops ev o) := by
  have plain : (match effB P G ops ev o with
      | some e => some (ES.eff e)
      | none => none) = some es → es.ok (effB P G ops ev o) := fun h => by
    split at h
    · rename_i e he
      simp only [Option.some.injEq] at h; subst h
      exact he
    · cases h
  unfold effS at h
  split at h
  · rename_i c a b ho
    rw [effB_of (by rw [ho]; rfl)]
    split at h
    · rename_i t ht
      simp only [Option.some.injEq] at h; subst h
      refine ⟨?_, ?_⟩ <;> rintro rfl <;> simp [effA, ho, ePick, ht]
    · cases h
  · rename_i op t x y t' ho
    split at h
    · rename_i a b hx hy
      simp only [Option.some.injEq] at h; subst h
      intro hb
      rw [effB_of (by rw [ho]; rfl)]
      simp only [effA, ho, e2, hx, hy, valO, binA, hb, if_true]
    · rename_i a b hx hy
      split at h
      · rename_i r hg hr
        simp only [Option.some.injEq] at h; subst h
        show _ = some _
        rw [effB_of (by rw [ho]; rfl)]
        simp only [effA, ho, e2, hx, hy, valO, binA, hg, eqB_ok _ _ _ _ _ hr, Bool.false_eq_true, if_false, Option.map_some]
      · cases h
    · rename_i a b hx hy
      split at h
      · rename_i r hg hr
        simp only [Option.some.injEq] at h; subst h
        show _ = some _
        rw [effB_of (by rw [ho]; rfl)]
        simp only [effA, ho, e2, hx, hy, valO, binA, hg, eqB_ok _ _ _ _ _ hr, Bool.false_eq_true, if_false, Option.map_some]
      · cases h
    · rename_i k a k' b hx hy
      split at h
      · rename_i hk
        have hk := of_decide_eq_true hk
        subst hk
        simp only [Option.some.injEq] at h; subst h
        intro hb
        have hb : beqInt b 0 = false := by simpa using hb
        rw [effB_of (by rw [ho]; rfl)]
        simp [effA, ho, e2, hx, hy, valO, binA, hb]
      · cases h
    · rename_i k a k' b hx hy
      split at h
      · rename_i hk
        have hk := of_decide_eq_true hk
        subst hk
        simp only [Option.some.injEq] at h; subst h
        intro hb
        have hb : beqInt b 0 = false := by simpa using hb
        rw [effB_of (by rw [ho]; rfl)]
        simp [effA, ho, e2, hx, hy, valO, binA, hb]
      · cases h
    · exact plain h
  · rename_i t a x ho
    split at h
    · rename_i a' x' ha hx
      rw [effB_of (by rw [ho]; rfl)]
      have := storeS_ok h
      simpa only [effA, ho, e2, ha, hx] using this
    · cases h
  · rename_i t x i ho
    split at h
    · rename_i x' i' hx hi
      split at h
      · rename_i e he
        simp only [Option.some.injEq] at h; subst h
        rw [effB_of (by rw [ho]; rfl)]
        have := indexS_ok he
        simpa only [effA, ho, e2, hx, hi] using this
      · exact plain h
    · cases h
  · rename_i s d x ho
    split at h
    · rename_i f l hx
      split at h
      · rename_i e he
        simp only [Option.some.injEq] at h; subst h
        rw [effB_of (by rw [ho]; rfl)]
        have := convS_ok he
        simpa only [effA, ho, e1, hx] using this
      · exact plain h
    · exact plain h
  · rename_i t x i ho
    split at h
    · rename_i s w hu hx hi
      split at h
      · rename_i b k hk
        simp only [Option.some.injEq] at h; subst h
        intro hb
        rw [Bool.and_eq_true] at hb
        rw [effB_of (by rw [ho]; rfl)]
        have hlt : k < s.length := by rw [← lenN_eq]; exact blt_iff.1 hb.2
        have hg : getN s k = some (nthU s k) := by rw [getN_eq]; simp [nthU, hlt]
        simp [effA, ho, e2, hx, hi, indexA, natS_ok hk hb.1, hu, hg, valO]
      · cases h
    · exact plain h
  · rename_i t l c ho
    split at h
    · rename_i l' c' hl hc
      rw [effB_of (by rw [ho]; rfl)]
      have := makeS_ok h
      simpa only [effA, ho, e2, hl, hc] using this
    · cases h
  · rename_i t x lo hi mx ho
    split at h
    · rename_i x' lo' hi' mx' h1 h2 h3 h4
      rw [effB_of (by rw [ho]; rfl)]
      have e : effA P G ev o = sliceA P t x' lo' hi' mx' := by simp only [effA, ho, eSlice, h1, h2, h3, h4]
      rw [e]
      split at h
      · rename_i es' he
        simp only [Option.some.injEq] at h; subst h
        exact sliceS_ok he
      · split at h
        · rename_i e' he
          simp only [Option.some.injEq] at h; subst h
          exact he
        · cases h
    · cases h
  · rename_i c ho
    split at h
    · rename_i s x hc hargs
      rw [effB_of (by rw [ho]; rfl)]
      have e : effA P G ev o = appendA P c.argTypes s x := by simp only [effA, ho, eCall, hargs, hc, builtinA]
      rw [e]
      split at h
      · rename_i es' he
        simp only [Option.some.injEq] at h; subst h
        exact appendS_ok he
      · split at h
        · rename_i e' he
          simp only [Option.some.injEq] at h; subst h
          exact he
        · cases h
    · rename_i d x hc hargs
      rw [effB_of (by rw [ho]; rfl)]
      have e : effA P G ev o = copyA P c.argTypes d x := by simp only [effA, ho, eCall, hargs, hc, builtinA]
      rw [e]
      split at h
      · rename_i es' he
        simp only [Option.some.injEq] at h; subst h
        exact copyS_ok he
      · split at h
        · rename_i e' he
          simp only [Option.some.injEq] at h; subst h
          exact he
        · cases h
    · exact plain h
  · exact plain h

variable {O : Opts} {n : Nat} {A : Aid}

/-- What the aid says is so. -/
structure AidOk (P : Program) (O : Opts) (A : Aid) : Prop where
  cx : CallOk P O.glob A.cx ∧ CallLoc A.cx
  sum : ∀ f args v, O.summ f args = some v → SemCall P O.glob f args v

theorem noCall_ok {G : Glob} : CallOk P G (fun _ _ _ _ _ => none) ∧ CallLoc (fun _ _ _ _ _ => none) := by
  refine ⟨?_, ?_⟩
  · intro f args rid H nx v H' nx' ft h; cases h
  · intro f args id h nx v h' nx' ft hc; cases hc

abbrev GoodCall (P : Program) (G : Glob) (call : Caller) : Prop := CallOk P G call ∧ CallLoc call

theorem plainK_ok (B : Base P O n) {id d : Nat} {e : Eff} {h : Heap} {nx : Nat} {K : AV → Heap → Nat → Foot → Prop} (hk : plainK P O n id d e h nx K) :
    ∃ call, GoodCall P O.glob call ∧ ∃ v h' nx' ft, runEff call id d e h nx = some (v, h', nx', ft) ∧ K v h' nx' ft := by
  unfold plainK at hk
  split at hk
  · rename_i v h' nx' ft hr
    exact ⟨_, B.calls, v, h', nx', ft, hr, hk⟩
  · exact hk.elim

theorem runEff_call {call : Caller} {id d : Nat} {f : FuncId} {args : List AV} {h : Heap} {nx : Nat} : runEff call id d (.call f args) h nx = call f args id h nx := by cases d <;> rfl

theorem effK_ok (B : Base P O n) (hA : AidOk P O A) {id : Nat} : ∀ (d : Nat) (e : Eff) {h : Heap} {nx : Nat} {K : AV → Heap → Nat → Foot → Prop}, effK P O n A id d e h nx K →
    ∃ call, GoodCall P O.glob call ∧ ∃ v h' nx' ft, runEff call id d e h nx = some (v, h', nx', ft) ∧ K v h' nx' ft := by
  have callCase : ∀ (d : Nat) (f : FuncId) (args : List AV) {h : Heap} {nx : Nat} {K : AV → Heap → Nat → Foot → Prop}, (match A.cx f args id h nx with
      | some (v, h', nx', ft) => K v h' nx' ft
      | none => match O.how f with
        | .pure => match O.summ f args with
          | some v => oblB (closedAll args) (K v h nx ⟨false, [], []⟩)
          | none => plainK P O n id d (.call f args) h nx K
        | _ => plainK P O n id d (.call f args) h nx K) → ∃ call, GoodCall P O.glob call ∧ ∃ v h' nx' ft, runEff call id d (.call f args) h nx = some (v, h', nx', ft) ∧ K v h' nx' ft := by
    intro d f args h nx K hk
    split at hk
    · rename_i v h' nx' ft hc
      exact ⟨_, hA.cx, v, h', nx', ft, by rw [runEff_call]; exact hc, hk⟩
    · split at hk
      · split at hk
        · rename_i v hs
          obtain ⟨_, hk⟩ := oblB_iff.1 hk
          exact ⟨_, tabC_ok (hA.sum f args v hs), v, h, nx, _, by rw [runEff_call]; unfold tabC; rw [if_pos ⟨rfl, rfl⟩], hk⟩
        · exact plainK_ok B hk
      · exact plainK_ok B hk
  intro d
  induction d with
  | zero =>
    intro e h nx K hk
    unfold effK at hk
    split at hk
    · exact callCase 0 _ _ hk
    · exact plainK_ok B hk
  | succ d ih =>
    intro e h nx K hk
    unfold effK at hk
    split at hk
    · exact callCase (d + 1) _ _ hk
    · rename_i i k
      split at hk
      · rename_i b hb
        split at hk
        · rename_i e' he
          obtain ⟨call, hc, v, h', nx', ft, hr, hK⟩ := ih e' hk
          exact ⟨call, hc, v, h', nx', _, by simp only [runEff, hb, he, hr], hK⟩
        · exact hk.elim
      · exact hk.elim
    · exact plainK_ok B hk

/-- What a step does, by some caller that is sound. -/
def StepOk (P : Program) (G : Glob) (ops : List Oper) (id : Nat) (o : Oper) (s : St) (K : St → Foot → Prop) : Prop :=
  ∃ call, GoodCall P G call ∧ ∃ s' ft, stepA P G call ops id o s = some (s', ft) ∧ K s' ft

theorem step_of {ops : List Oper} {id : Nat} {o : Oper} {s : St} {K : St → Foot → Prop} (hw : wantedA ops o s.slots = some true) {call : Caller} (hc : GoodCall P O.glob call) {e : Eff} (he : effB P O.glob ops (evA s.slots) o = some e)
    {v : AV} {h : Heap} {nx : Nat} {ft : Foot} (hr : runEff call id 2 e s.heap s.nx = some (v, h, nx, ft)) (hk : K ⟨putA s.n s.slots o.dst v, h, nx, s.n⟩ ft) : StepOk P O.glob ops id o s K :=
  ⟨call, hc, _, ft, by unfold stepA; simp only [hw, he, hr], hk⟩

theorem esK_ok (B : Base P O n) (hA : AidOk P O A) {ops : List Oper} {id : Nat} {o : Oper} {s : St} {K : St → Foot → Prop} (hw : wantedA ops o s.slots = some true)
    (hk : esK P O n A id s.heap s.nx (fun v h nx ft => K ⟨putA s.n s.slots o.dst v, h, nx, s.n⟩ ft) (effS P O.glob ops (evA s.slots) o)) : StepOk P O.glob ops id o s K := by
  cases hs : effS P O.glob ops (evA s.slots) o with
  | none => rw [hs] at hk; exact hk.elim
  | some es =>
    rw [hs] at hk
    have hok := effS_ok hs
    cases es with
    | eff e =>
      obtain ⟨call, hc, v, h', nx', ft, hr, hK⟩ := effK_ok B hA 2 e hk
      exact step_of hw hc hok hr hK
    | obl b e =>
      obtain ⟨hb, hk⟩ := oblB_iff.1 hk
      obtain ⟨call, hc, v, h', nx', ft, hr, hK⟩ := effK_ok B hA 2 e hk
      exact step_of hw hc (hok hb) hr hK
    | app b i k v =>
      obtain ⟨hb, hk⟩ := oblB_iff.1 hk
      obtain ⟨kk, he, hkk⟩ := hok hb
      split at hk
      · rename_i l hl
        obtain ⟨hb2, hk⟩ := oblB_iff.1 hk
        exact step_of hw B.calls he (by simp only [runEff, hl, hkk l hb2]) hk
      · exact hk.elim
    | put b i k v =>
      obtain ⟨hb, hk⟩ := oblB_iff.1 hk
      obtain ⟨kk, he, hkk⟩ := hok hb
      split at hk
      · rename_i l hl
        obtain ⟨hb2, hk⟩ := oblB_iff.1 hk
        exact step_of hw B.calls he (by simp only [runEff, hl, hkk l hb2]) hk
      · exact hk.elim
    | pick b x y =>
      simp only [esK] at hk
      split at hk
      · split at hk
        · exact step_of hw B.calls ((hok.1 rfl).trans rfl) rfl hk
        · exact hk.elim
      · split at hk
        · exact step_of hw B.calls ((hok.2 rfl).trans rfl) rfl hk
        · exact hk.elim

theorem noNest_ok : NestOk P O (fun _ _ _ _ _ => none) := fun _ _ _ _ _ _ _ _ _ h => by cases h

theorem hintK_ok (B : Base P O n) (hA : AidOk P O A) {ops : List Oper} {id : Nat} {o : Oper} {s : St} {K : St → Foot → Prop} {a : Hint} (hw : wantedA ops o s.slots = some true)
    (hk : hintK P O n A ops id o s (fun v h nx ft => K ⟨putA s.n s.slots o.dst v, h, nx, s.n⟩ ft) a) : StepOk P O.glob ops id o s K := by
  unfold hintK at hk
  split at hk
  · split at hk
    · rename_i e he
      obtain ⟨call, hc, v, h', nx', ft, hr, hK⟩ := effK_ok B hA 2 e hk
      exact step_of hw hc he hr hK
    · exact hk.elim
  · split at hk
    · rename_i a v h nx ft F ha
      obtain ⟨call, hc, hs⟩ := ansT_sem B.calls B.glob noNest_ok hw ha hk.1
      exact ⟨call, hc, _, _, hs, hk.2⟩
    · exact hk.elim
  · rename_i v
    split at hk
    · rename_i t x i ho
      split at hk
      · rename_i f es w hx hi
        split at hk
        · rename_i b k e hn he
          split at hk
          · rename_i sz hsz
            obtain ⟨hg, hk⟩ := hk
            obtain ⟨hb, hk⟩ := oblB_iff.1 hk
            rw [Bool.and_eq_true] at hb
            refine step_of (e := .val (.fptr v.cells 0)) hw B.calls ?_ rfl hk
            rw [effB_of (by rw [ho]; rfl)]
            have hu : P.underlying t = some (.slice e) := by
              unfold elemOfA at he
              split at he
              · simp only [Option.some.injEq] at he; subst he; assumption
              · cases he
            have q1 := natS_ok hn hb.1
            simp only [effA, ho, e2, hx, hi, indexAddrA, q1, hu, hsz, hg, hb.2, valO, Option.bind_eq_bind, Option.bind_some, if_true]
          · exact hk.elim
        · exact hk.elim
      · exact hk.elim
    · exact hk.elim
  · rename_i v
    split at hk
    · rename_i t a ho
      split at hk
      · rename_i i off hx
        split at hk
        · rename_i l hl
          obtain ⟨hp, hk⟩ := hk
          have he : ∃ k, effB P O.glob ops (evA s.slots) o = some (.read i k) ∧ k (.cells l) = some (.val v) := by
            rw [effB_of (by rw [ho]; rfl)]
            simp only [effA, ho, e1, hx, loadA]
            exact ⟨_, rfl, by simp only [hp, Option.map_some]⟩
          obtain ⟨k, he, hkl⟩ := he
          exact step_of hw B.calls he (by simp only [runEff, hl, hkl]) hk
        · exact hk.elim
      · rename_i cs off hx
        obtain ⟨hp, hk⟩ := hk
        refine step_of (e := .val v) hw B.calls ?_ rfl hk
        rw [effB_of (by rw [ho]; rfl)]
        simp only [effA, ho, e1, hx, loadA, hp, Option.map_some]
      · exact hk.elim
    · exact hk.elim

/-- What is known of slots is so. -/
def KnOk (kn : Kn) (slots : Tr) : Prop := ∀ d b, kget kn d = some b → slots.get d = some (.bool b)
theorem evN_eq {kn : Kn} {slots : Tr} (h : KnOk kn slots) : evN kn slots = evA slots := by
  funext x
  unfold evN
  split
  · split
    · rename_i b hb
      simp only [evA, h _ b hb]
    · rfl
  · rfl
theorem kget_drop {kn : Kn} {k d : Nat} {b : Bool} (h : kget (kdrop kn k) d = some b) : d ≠ k ∧ kget kn d = some b := by
  induction kn with
  | nil => cases h
  | cons p t ih =>
    obtain ⟨e, c⟩ := p
    simp only [kdrop] at h
    split at h
    · rename_i he
      have he := beq_iff.1 he
      obtain ⟨h1, h2⟩ := ih h
      refine ⟨h1, ?_⟩
      simp only [kget]
      rw [beq_false_of (by rw [he]; exact fun h => h1 h.symm)]
      exact h2
    · rename_i he
      have he := beq_false_iff.1 he
      simp only [kget] at h ⊢
      split at h
      · rename_i hd
        have hd' := beq_iff.1 hd
        exact ⟨fun h' => he (by omega), h⟩
      · exact ih h
 where
  beq_false_of {a b : Nat} (h : a ≠ b) : Nat.beq a b = false := beq_false_iff.2 h
theorem KnOk.put {kn : Kn} {slots : Tr} {n : Nat} {dst : Option Tmp} {v : AV} (h : KnOk kn slots) : KnOk (kput kn dst) (putA n slots dst v) := by
  intro d b hd
  cases dst with
  | none => exact h d b hd
  | some e =>
    simp only [kput] at hd
    obtain ⟨h1, h2⟩ := kget_drop hd
    simp only [putA]
    split
    · rw [Tr.get_set_ne 12 slots v h1]; exact h d b h2
    · exact h d b h2
theorem KnOk.cons {kn : Kn} {slots : Tr} {d : Nat} {b : Bool} (h : KnOk kn slots) (hd : slots.get d = some (.bool b)) : KnOk ((d, b) :: kn) slots := by
  intro k c hk
  simp only [kget] at hk
  split at hk
  · rename_i he
    have he := beq_iff.1 he
    subst he
    simp only [Option.some.injEq] at hk
    subst hk; exact hd
  · exact h k c hk

def StepOkN (P : Program) (G : Glob) (ops : List Oper) (id : Nat) (o : Oper) (s : St) (K : Kn → St → Foot → Prop) : Prop :=
  StepOk P G ops id o s (fun s' ft => ∃ kn', KnOk kn' s'.slots ∧ K kn' s' ft)

theorem hintK_mono {ops : List Oper} {id : Nat} {o : Oper} {s : St} {K K' : AV → Heap → Nat → Foot → Prop} (h : K = K') {a : Hint} (hk : hintK P O n A ops id o s K a) : hintK P O n A ops id o s K' a := h ▸ hk

theorem goK_ok (B : Base P O n) (hA : AidOk P O A) {rid : Nat} {ops : List Oper} {id i : Nat} {o : Oper} {s : St} {kn : Kn} {K : Kn → St → Foot → Prop} (hkn : KnOk kn s.slots) (hw : wantedA ops o s.slots = some true) (hk : goK P O n A rid ops id i o s kn K) :
    StepOkN P O.glob ops id o s K := by
  have fin : StepOk P O.glob ops id o s (fun s' ft => s'.slots = s'.slots ∧ (∃ v, s'.slots = putA s.n s.slots o.dst v) ∧ K (kput kn o.dst) s' ft) → StepOkN P O.glob ops id o s K := fun ⟨c, h1, s', ft, h2, _, ⟨v, hv⟩, h3⟩ =>
    ⟨c, h1, s', ft, h2, kput kn o.dst, by rw [hv]; exact hkn.put, h3⟩
  refine fin ?_
  unfold goK at hk
  split at hk
  · refine hintK_ok B hA hw (hintK_mono ?_ hk)
    funext v h nx ft
    simp only [true_and, eq_iff_iff]
    exact ⟨fun h => ⟨⟨v, rfl⟩, h⟩, fun h => h.2⟩
  · rw [evN_eq hkn] at hk
    refine esK_ok B hA hw (?_ : esK P O n A id s.heap s.nx _ (effS P O.glob ops (evA s.slots) o))
    have : (fun v h nx ft => K (kput kn o.dst) ⟨putA s.n s.slots o.dst v, h, nx, s.n⟩ ft) = (fun v h nx ft => (fun (s' : St) (ft : Foot) => s'.slots = s'.slots ∧ (∃ v, s'.slots = putA s.n s.slots o.dst v) ∧ K (kput kn o.dst) s' ft) ⟨putA s.n s.slots o.dst v, h, nx, s.n⟩ ft) := by
      funext v h nx ft
      simp only [true_and, eq_iff_iff]
      exact ⟨fun h => ⟨⟨v, rfl⟩, h⟩, fun h => h.2⟩
    rw [← this]
    exact hk

theorem stepK_ok (B : Base P O n) (hA : AidOk P O A) {rid : Nat} {ops : List Oper} {id i : Nat} {o : Oper} {s : St} {kn : Kn} {K : Kn → St → Foot → Prop} (hkn : KnOk kn s.slots) (hk : stepK P O n A rid ops id i o s kn K) : StepOkN P O.glob ops id o s K := by
  have no : ∀ {kn : Kn}, KnOk kn s.slots → wantedA ops o s.slots = some false → noK o s kn K → StepOkN P O.glob ops id o s K := fun {kn} hkn hw hk =>
    ⟨_, B.calls, _, _, by unfold stepA; simp only [hw], _, hkn.put, hk⟩
  unfold stepK at hk
  split at hk
  · rename_i hg
    exact goK_ok B hA hkn (by unfold wantedA; simp only [hg]) hk
  · rename_i j want hg
    split at hk
    · rename_i g hj
      split at hk
      · rename_i d hd
        split at hk
        · rename_i b hkb
          have hb := hkn d b hkb
          split at hk
          · split at hk
            · exact goK_ok B hA hkn (by unfold wantedA; simp [hg, hj, hd, hb]) hk
            · exact no hkn (by unfold wantedA; simp [hg, hj, hd, hb]) hk
          · split at hk
            · exact no hkn (by unfold wantedA; simp [hg, hj, hd, hb]) hk
            · exact goK_ok B hA hkn (by unfold wantedA; simp [hg, hj, hd, hb]) hk
        · split at hk
          · rename_i b hb
            split at hk
            · split at hk
              · exact goK_ok B hA (hkn.cons hb) (by unfold wantedA; simp [hg, hj, hd, hb]) hk
              · exact no (hkn.cons hb) (by unfold wantedA; simp [hg, hj, hd, hb]) hk
            · split at hk
              · exact no (hkn.cons hb) (by unfold wantedA; simp [hg, hj, hd, hb]) hk
              · exact goK_ok B hA (hkn.cons hb) (by unfold wantedA; simp [hg, hj, hd, hb]) hk
          · rename_i hb
            exact no hkn (by unfold wantedA; simp [hg, hj, hd, hb]) hk
          · exact hk.elim
      · exact hk.elim
    · exact hk.elim

theorem runOpsK_ok (B : Base P O n) (hA : AidOk P O A) {rid : Nat} {all : List Oper} {base : Nat} : ∀ (rest : List Oper) (i : Nat) (s : St) (kn : Kn) (acc : List (Nat × Foot)) {K : St → List (Nat × Foot) → Prop}, KnOk kn s.slots → runOpsK P O n A rid all base rest i s kn acc K →
    ∃ call, GoodCall P O.glob call ∧ ∃ s' feet, runOps P O.glob call all base rest i s acc = some (s', feet) ∧ K s' feet
  | [], i, s, kn, acc, K, _, hk => ⟨_, B.calls, s, acc, rfl, hk⟩
  | o :: rest, i, s, kn, acc, K, hkn, hk => by
    simp only [runOpsK] at hk
    obtain ⟨c1, h1, s1, ft, hs, kn', hkn', hk⟩ := stepK_ok B hA hkn hk
    obtain ⟨c2, h2, s', feet, hr, hK⟩ := runOpsK_ok B hA rest (i + 1) s1 kn' _ hkn' hk
    refine ⟨mixC (base + i) c1 c2, mixC_ok h1 h2, s', feet, ?_, hK⟩
    simp only [runOps]
    rw [stepA_caller (call' := c1) (fun f args hp nx => by unfold mixC; rw [if_pos rfl]), hs]
    simp only
    rw [runOps_caller (call' := c2) rest (i + 1) _ _ fun f args id hp nx hid => by unfold mixC; rw [if_neg (by omega)]]
    exact hr

/-- What is said of loops is so. -/
def LsOk (P : Program) (G : Glob) (nx0 : Nat) (A : Aid) (c : Code) : Prop :=
  ∀ r L, A.ls r = some L → ∀ b ∈ loopsAt c r, ∀ s Q, L s Q → AWp P G nx0 (.loop b) s Q

theorem loopK_ok {nx0 : Nat} {body : Code} {W : St → (AExit → St → Prop) → Prop} (h : ∀ s Q, W s Q → AWp P O.glob nx0 body s Q) : ∀ (k : Nat) (s : St) (Q : AExit → St → Prop), loopK W k s Q → ARnd P O.glob nx0 body Q k s
  | 0, _, _, hk => hk
  | k + 1, s, Q, hk => (h s _ hk).mono fun e s' hq => by
    cases e with
    | normal => exact loopK_ok h k s' Q hq
    | exit i => exact hq
    | ret => exact hq

theorem wpK_ok {nx0 : Nat} (B : Base P O n) (hA : AidOk P O A) : ∀ (c : Code) (s : St) (Q : AExit → St → Prop), LsOk P O.glob nx0 A c → wpK P O n A c s Q → AWp P O.glob nx0 c s Q := by
  intro c
  induction c with
  | skip => exact fun s Q _ h => .skip h
  | label l => exact fun s Q _ h => .label h
  | exit i => exact fun s Q _ h => .exit h
  | ret => exact fun s Q _ h => .ret h
  | region rid ops draw =>
    intro s Q _ h
    simp only [wpK] at h
    obtain ⟨call, ⟨h1, h2⟩, s', feet, hr, hk⟩ := runOpsK_ok B hA _ _ _ _ _ (fun _ _ h => by cases h) h
    cases draw with
    | false => exact .region B.mixed h1 h2 hr (fun h => by cases h) hk
    | true =>
      obtain ⟨hb, hk⟩ := oblB_iff.1 hk
      rw [Bool.and_eq_true] at hb
      exact .region B.mixed h1 h2 hr (fun _ => hb) hk
  | seq a b iha ihb =>
    intro s Q hl h
    refine .seq ((iha s _ (fun r L hL b' hb => hl r L hL b' (by simp [loopsAt, hb])) h).mono fun e s' hq => ?_)
    cases e with
    | normal => exact ihb s' Q (fun r L hL b' hb => hl r L hL b' (by simp [loopsAt, hb])) hq
    | exit i => exact hq
    | ret => exact hq
  | cond c a b iha ihb =>
    intro s Q hl h
    simp only [wpK] at h
    split at h
    · rename_i t hc
      split at h
      · exact .cond_true hc (iha s Q (fun r L hL b' hb => hl r L hL b' (by simp [loopsAt, hb])) h)
      · exact .cond_false hc (ihb s Q (fun r L hL b' hb => hl r L hL b' (by simp [loopsAt, hb])) h)
    · exact h.elim
  | block id body ih => exact fun s Q hl h => .block (ih s _ hl h)
  | loop body ih =>
    intro s Q hl h
    simp only [wpK] at h
    split at h
    · rename_i L hL
      exact hl _ L hL body (by simp [loopsAt]) s Q h
    · exact .loop O.lf (loopK_ok (fun s Q h => ih s Q (fun r L hL b' hb => hl r L hL b' (by simp [loopsAt, hb])) h) _ _ _ h)
  | rangeFunc f p x y _ _ => exact fun s Q _ h => h.elim
  | scope c _ => exact fun s Q _ h => h.elim
  | goto l => exact fun s Q _ h => h.elim
  | refuse y => exact fun s Q _ h => h.elim

/-- A function's loops are as said. -/
def FnLs (P : Program) (G : Glob) (nx0 : Nat) (A : Aid) (f : FuncId) : Prop := ∀ fn c, P.funcs[f]? = some fn → fn.body = some c → LsOk P G nx0 A c

theorem fnLs_none {G : Glob} {nx0 : Nat} {f : FuncId} (h : ∀ r, A.ls r = none) : FnLs P G nx0 A f := fun _ _ _ _ r L hL => by rw [h] at hL; cases hL

theorem fnK_body {f : FuncId} {args : List AV} {H : Heap} {nx : Nat} {Q : AV → Heap → Nat → Prop} (B : Base P O n) (hA : AidOk P O A) (hl : FnLs P O.glob nx A f) (h : fnK P O n A f args H nx Q) :
    ∃ fn c, P.funcs[f]? = some fn ∧ fn.body = some c ∧ (fn.name == "runtime.NumGoroutine") = false ∧ (Nat.ble (lenN args) fn.ntmps && Nat.ble fn.ntmps 4095) = true ∧
      AWp P O.glob nx c ⟨argsT args 0 .tip, H, nx, fn.ntmps⟩ (fun e s => (e = .normal ∨ e = .ret) ∧ ∃ l, resA P O.glob s fn.results.toList = some l ∧ Q (tupA l) s.heap s.nx) := by
  unfold fnK at h
  split at h
  · rename_i fn hfn
    split at h
    · rename_i c hc
      split at h
      · exact h.elim
      · rename_i hname
        split at h
        · exact h.elim
        · rename_i hsz
          refine ⟨fn, c, hfn, hc, hname, hsz, (wpK_ok B hA c _ _ (hl fn c hfn hc) h).mono fun e s hq => ?_⟩
          split at hq
          · exact hq.elim
          · rename_i hne
            split at hq
            · rename_i l hl
              refine ⟨?_, l, hl, hq⟩
              cases e with
              | normal => exact .inl rfl
              | ret => exact .inr rfl
              | exit i => exact absurd rfl (hne i)
            · exact hq.elim
    · exact h.elim
  · exact h.elim

/-- A closed call's answer. -/
theorem fnK_sem {f : FuncId} {args : List AV} {v : AV} (B : Base P O n) (hA : AidOk P O A) (hl : FnLs P O.glob 0 A f) (hcl : closedAll args = true)
    (h : fnK P O n A f args [] 0 (fun u H _ => (∃ d, freezeA 0 H d u = some v) ∧ closedA v = true)) : SemCall P O.glob f args v := by
  obtain ⟨fn, c, hfn, hc, hname, hsz, hw⟩ := fnK_body B hA hl h
  refine sem_of_wp B hfn hc hname hsz hcl fun w I a hr => wp_mono (hw.out w I _ [] [] a w (fun _ _ => rfl) hr) ?_
  rintro e a' w' ⟨x, s', rfl, h2, hx, l, hl, hq⟩
  refine ⟨s', l, ?_, h2, hl, hq.1, hq.2⟩
  rcases hx with rfl | rfl
  · exact .inl rfl
  · exact .inr rfl

/-- A body's run from a heap to a heap. -/
theorem fnK_bodySem {f : FuncId} {args : List AV} {H : Heap} {nx : Nat} {v : AV} {H' : Heap} {nx' : Nat} (B : Base P O n) (hA : AidOk P O A) (hl : FnLs P O.glob nx A f)
    (h : fnK P O n A f args H nx (fun u h m => u = v ∧ h = H' ∧ m = nx')) : BodySem P O.glob f args H nx v H' nx' := by
  obtain ⟨fn, c, hfn, hc, hname, hsz, hw⟩ := fnK_body B hA hl h
  intro w I α vs r ha hf
  refine body_of_wp' hfn hc hname hsz (fun w I α a hα hr => wp_mono (hw.out w I α H [] a w hα hr) ?_) w I α vs r ha hf
  rintro e a' w' ⟨x, s', rfl, h2, hx, l, hl, rfl, rfl, rfl⟩
  refine ⟨s', l, ?_, h2, hl, rfl, rfl, rfl⟩
  rcases hx with rfl | rfl
  · exact .inl rfl
  · exact .inr rfl
 where
  body_of_wp' {f : FuncId} {fn : Func} {c : Code} {args : List AV} {H : Heap} {nx : Nat} {v : AV} {H' : Heap} {nx' : Nat} (hfn : P.funcs[f]? = some fn) (hc : fn.body = some c) (hname : (fn.name == "runtime.NumGoroutine") = false) (hsz : (Nat.ble (lenN args) fn.ntmps && Nat.ble fn.ntmps 4095) = true)
    (h : ∀ w I α a, (∀ id, nx ≤ id → α id = none) → CR O.glob w I α H nx [] ⟨argsT args 0 .tip, H, nx, fn.ntmps⟩ a w → c.wp P (fun e a' w' => ∃ s l, (exitOf .normal = e ∨ exitOf .ret = e) ∧ CR O.glob w I α H nx [] s a' w' ∧ resA P O.glob s fn.results.toList = some l ∧ tupA l = v ∧ s.heap = H' ∧ s.nx = nx') a w) :
    BodySem P O.glob f args H nx v H' nx' := by
    intro w I α vs r ha hf
    rw [Bool.and_eq_true, Nat.ble_eq, Nat.ble_eq, lenN_eq] at hsz
    refine ⟨?_, ?_⟩
    · unfold callFunc
      simp only [Sem.run_bind, run_program, Result.andThen_ok, hfn, hname, hc, Bool.false_eq_true, if_false, Option.isNone_some, Sem.run_pure]
    · refine calls_of_wp hfn hc ?_
      have hvs : args.length = vs.size := by rw [ha.1]; simp
      have hr0 : CR O.glob w I α H nx [] ⟨argsT args 0 .tip, H, nx, fn.ntmps⟩ { tmps := vs ++ Array.replicate (fn.ntmps - vs.size) undef, defers := [] } w :=
        ⟨⟨I, α, .refl, r, slots_args ha (by omega), fun i hi => absurd hi (Nat.not_lt_zero i), hf, fun id h => .inl h⟩, Nat.le_refl _, Nat.le_refl _, rfl, by simp; omega, hsz.2⟩
      refine wp_mono (h w I α _ hf hr0) fun e a' w' hq => ?_
      obtain ⟨s, l, he, hr, hl, rfl, rfl, rfl⟩ := hq
      obtain ⟨⟨I', α', h1, h2, h3, _, _, h6⟩, _, h8, h9, _, _⟩ := hr
      obtain ⟨u, e1, e2⟩ := results_sound (P := P) (fn := fn) h2 h3 hl
      rcases he with rfl | rfl <;> exact ⟨h9, u, e1, u, rfl, ⟨I', α', h1, h2, e2, h6⟩, h8⟩

end
end Go.Proofs.Abs
