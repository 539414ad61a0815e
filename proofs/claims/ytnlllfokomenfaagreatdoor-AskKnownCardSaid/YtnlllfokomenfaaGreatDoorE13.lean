/- clear, min, max, maps; calls. -/
import Derived.Test.YtnlllfokomenfaaGreatDoorE12
import Derived.Maps.RangeRun
namespace Go.Proofs.Abs
open Go

section
variable {P : Program} {G : Glob} {call : Caller} {w : World} {I : Nat → Prop} {α : Nat → Option Nat} {H : Heap} {rid nx : Nat}

theorem implV_clear {argTypes : Array TypeId} {ty : TypeId} {x : AV} {x' : Value} {e : Eff} (c : Ctx P G call w I α H rid nx) (hx : Rep w I α x x') (h : clearA P argTypes x = some e) :
    ImplV P G call w I α H rid nx (Builtin.clear_ argTypes ty #[x']) e := by
  unfold clearA at h
  split at h
  · rename_i t h0
    split at h
    · rename_i el ht
      split at h
      · rename_i sz z hsz hz
        split at h
        · rename_i hc
          simp only [Bool.and_eq_true] at hc
          have hzl : z.cells.length = sz := by have := hc.1.1; rw [lenN_eq] at this; exact beq_iff.1 this
          have hone := hc.1.2
          have hpos : 0 < sz := by simpa using hc.2
          split at h
          · simp only [Option.some.injEq] at h; subst h
            cases hx
            exact implV_val c (v' := .tuple #[]) (by simp [Builtin.clear_, h0, run_underlying' ht]) (Rep.tuple_iff.2 ⟨_, rfl, .nil⟩)
          · simp only [Option.some.injEq] at h; subst h
            obtain ⟨a, cap, rfl⟩ : ∃ a cap, x' = .slice a 0 cap := by
              cases hx with
              | fsl _ _ a len cap sz b base g hl hc hf ha hI hs hg hr => simp at hl; subst hl; exact ⟨a, cap, rfl⟩
            cases a <;> exact implV_val c (v' := .tuple #[]) (by simp [Builtin.clear_, h0, run_underlying' ht]) (Rep.tuple_iff.2 ⟨_, rfl, .nil⟩)
          · rename_i own id off len sz'
            simp only [Option.some.injEq] at h; subst h
            cases hx with
            | rsl _ _ _ _ _ cap b hb hcap ho =>
              refine impl_upd c fun blk b' blk' v hg hα hB hk => ?_
              rw [hb] at hα; cases hα
              split at hk
              · rename_i l
                simp only [Option.map_eq_some_iff, Prod.mk.injEq] at hk
                obtain ⟨l', hl', rfl, rfl⟩ := hk
                obtain ⟨cc, ee, g1, g2, g3⟩ := hB
                rcases Nat.eq_zero_or_pos len with h00 | hlpos
                · subst h00
                  have hll : l' = l := by obtain ⟨e1, _⟩ := splice_eq _ _ _ _ hl'; rw [e1]; simp [repE, flat]
                  subst hll
                  have hrun : (Builtin.clear_ argTypes ty #[.slice (some ⟨b, off, none⟩) 0 cap]).run P w = .ok (.tuple #[]) w := by
                    simp [Builtin.clear_, h0, run_underlying' ht]
                  rw [hrun]
                  exact post_upd (w' := w) c hg hb rfl (fun _ _ => rfl) rfl (fun _ _ => ⟨cc, ee, g1, g2, g3⟩) (fun _ _ => Rep.tuple_iff.2 ⟨_, rfl, .nil⟩)
                · obtain ⟨i, zv, k1, k2, k3⟩ := zeroA_info hz
                  have hzr : RepL w I α z.cells zv.cells.toList := (rep_ofValue k3).cells
                  have hzz := zeros_rep (n := len) hpos hzr hzl
                  have hzvs : zv.cells.size = sz := by rw [← hzl, hzr.1]; simp
                  have hze : Builtin.zeroCells zv.cells len = (Array.range (len * sz)).map (zv.cells[· % zv.cells.size]!) := by simp [Builtin.zeroCells, hzvs]
                  rw [← hze] at hzz
                  have hlen : (Builtin.zeroCells zv.cells len).toList.length = len * sz := by simp [zeroCells_size, hzvs]
                  obtain ⟨_, e2⟩ := splice_eq _ _ _ _ hl'
                  have hfl : (flat (repE z len)).length = len * sz := by rw [hzz.1, hlen]
                  have hfit : off + (Builtin.zeroCells zv.cells len).toList.length ≤ cc.size := by
                    rcases e2 with e2 | e2
                    · rw [e2] at hfl; simp at hfl; have := Nat.mul_pos hlpos hpos; omega
                    · rw [hlen]; omega
                  have hone' : ∀ u ∈ (Builtin.zeroCells zv.cells len).toList, u.oneCell' = true := hzz.one (allOne_flat hone)
                  have hst := run_storeCells_at P b off ee (Builtin.zeroCells zv.cells len).toList 0 cc w g1 (by simpa using hfit) hone'
                  simp only [Nat.add_zero] at hst
                  have hrun : (Builtin.clear_ argTypes ty #[.slice (some ⟨b, off, none⟩) len cap]).run P w = .ok (.tuple #[]) (w.setRow b (cc.toList.take off ++ (Builtin.zeroCells zv.cells len).toList ++ cc.toList.drop (off + (Builtin.zeroCells zv.cells len).toList.length)).toArray) := by
                    obtain ⟨m, rfl⟩ : ∃ m, len = m + 1 := ⟨len - 1, by omega⟩
                    simp [Builtin.clear_, h0, run_underlying' ht, run_zeroValue' k1 k2, hst] 
                  rw [hrun]
                  exact post_splice c hg hb g1 g2 g3 hl' hzz hfit (fun _ _ _ => Rep.tuple_iff.2 ⟨_, rfl, .nil⟩)
              · simp at hk
          · simp at h
        · simp at h
      · simp at h
    · simp at h
  · simp at h
 where
  allOne_append : ∀ {a b : List AV}, allOne a = true → allOne b = true → allOne (a ++ b) = true
    | [], _, _, h => h
    | x :: t, b, h1, h2 => by
      simp only [allOne, Bool.and_eq_true, List.cons_append] at h1 ⊢
      exact ⟨h1.1, allOne_append h1.2 h2⟩
  allOne_flat {z : AV} (h : allOne z.cells = true) : ∀ {n : Nat}, allOne (flat (repE z n)) = true
    | 0 => rfl
    | n + 1 => by
      simp only [repE, flat]
      exact allOne_append h (allOne_flat h)

/-! ### min, max -/

theorem run_min_fold : ∀ (t : List AV) (t' : List Value) (x : AV) (x' : Value) (v : AV), RepL w I α t t' → Rep w I α x x' →
    t.foldlM (fun x y => match x, y with
      | .int k a, .int _ b => some (.int k (if ltInt b a then b else a))
      | _, _ => none) x = some v → ∃ v', (t'.foldlM Builtin.min2 x').run P w = .ok v' w ∧ Rep w I α v v'
  | [], t', x, x', v, ht, hx, h => by
    rw [ht.nil_inv]
    simp at h; subst h
    exact ⟨x', by simp, hx⟩
  | y :: t, t', x, x', v, ht, hx, h => by
    obtain ⟨y', t'', rfl, hy, ht'⟩ := ht.cons_inv
    simp only [List.foldlM_cons, Option.bind_eq_bind] at h
    cases x <;> try (simp at h; done)
    rename_i k a
    cases y <;> try (simp at h; done)
    rename_i k2 b
    simp only [Option.bind_some] at h
    cases hx; cases hy
    obtain ⟨v', h1, h2⟩ := run_min_fold t t'' _ (.int k (if ltInt b a then b else a)) v ht' (.int _ _) h
    refine ⟨v', ?_, h2⟩
    simp only [List.foldlM_cons, Builtin.min2, Sem.run_bind, Sem.run_pure, Result.andThen_ok]
    rw [ltInt_eq] at h1
    simpa using h1

theorem run_min {l : List AV} {l' : List Value} {v : AV} {at' : Array TypeId} {ty : TypeId} (hl : RepL w I α l l') (h : minA l = some v) :
    ∃ v', (Builtin.min_ at' ty l'.toArray).run P w = .ok v' w ∧ Rep w I α v v' := by
  cases l with
  | nil => simp [minA] at h
  | cons x t =>
    obtain ⟨x', t', rfl, hx, ht⟩ := hl.cons_inv
    exact run_min_fold t t' x x' v ht hx h

theorem run_max_fold : ∀ (t : List AV) (t' : List Value) (x : AV) (x' : Value) (v : AV), RepL w I α t t' → Rep w I α x x' →
    t.foldlM (fun x y => match x, y with
      | .int k a, .int _ b => some (.int k (if ltInt a b then b else a))
      | _, _ => none) x = some v → ∃ v', (t'.foldlM Builtin.max2 x').run P w = .ok v' w ∧ Rep w I α v v'
  | [], t', x, x', v, ht, hx, h => by
    rw [ht.nil_inv]
    simp at h; subst h
    exact ⟨x', by simp, hx⟩
  | y :: t, t', x, x', v, ht, hx, h => by
    obtain ⟨y', t'', rfl, hy, ht'⟩ := ht.cons_inv
    simp only [List.foldlM_cons, Option.bind_eq_bind] at h
    cases x <;> try (simp at h; done)
    rename_i k a
    cases y <;> try (simp at h; done)
    rename_i k2 b
    simp only [Option.bind_some] at h
    cases hx; cases hy
    obtain ⟨v', h1, h2⟩ := run_max_fold t t'' _ (.int k (if ltInt a b then b else a)) v ht' (.int _ _) h
    refine ⟨v', ?_, h2⟩
    simp only [List.foldlM_cons, Builtin.max2, Sem.run_bind, Sem.run_pure, Result.andThen_ok]
    rw [ltInt_eq] at h1
    simpa using h1

theorem run_max {l : List AV} {l' : List Value} {v : AV} {at' : Array TypeId} {ty : TypeId} (hl : RepL w I α l l') (h : maxA l = some v) :
    ∃ v', (Builtin.max_ at' ty l'.toArray).run P w = .ok v' w ∧ Rep w I α v v' := by
  cases l with
  | nil => simp [maxA] at h
  | cons x t =>
    obtain ⟨x', t', rfl, hx, ht⟩ := hl.cons_inv
    exact run_max_fold t t' x x' v ht hx h

/-! ### Maps -/

theorem keyKind_eq {kt : TypeId} {k : AV} (h : keyKind P kt k = true) : ∃ kd, P.underlying kt = some kd ∧ keyKindD kd k = true := by
  unfold keyKind at h
  split at h
  · rename_i kd hk; exact ⟨kd, hk, h⟩
  · simp at h

theorem keyEq_rep {kd : TypeDesc} {k x : AV} {k' x' : Value} {b : Bool} (hkd : keyKindD kd k = true) (hk : Rep w I α k k') (hx : Rep w I α x x') (h : keyEq k x = some b) : Instr.sameNow kd k' x' = some b := by
  unfold keyEq at h
  split at h
  · cases hk with
    | str _ s hs => cases hx with
      | str _ s' hs' =>
        simp only [Option.some.injEq] at h; subst h
        cases kd <;> simp [keyKindD] at hkd
        simp only [Instr.sameNow]
        rw [beq_toListBytes, ByteArray.toList_eq, ByteArray.toList_eq, hs, hs', beqBytes_eq]
  · split at h
    · rename_i e; subst e
      cases hk; cases hx
      simp only [Option.some.injEq] at h; subst h
      cases kd <;> simp [keyKindD] at hkd
      simp [Instr.sameNow, beqInt_eq]
    · simp at h
  · simp at h

def RepE (w : World) (I : Nat → Prop) (α : Nat → Option Nat) (x : AV × AV) (y : MapEntry) : Prop := Rep w I α x.1 y.key ∧ Rep w I α x.2 y.val
def RepM (w : World) (I : Nat → Prop) (α : Nat → Option Nat) (es : List (AV × AV)) (en : List MapEntry) : Prop :=
  es.length = en.length ∧ ∀ (i : Nat) x y, es[i]? = some x → en[i]? = some y → RepE w I α x y

theorem RepM.cons_inv {x : AV × AV} {es : List (AV × AV)} {en : List MapEntry} (h : RepM w I α (x :: es) en) : ∃ y en', en = y :: en' ∧ RepE w I α x y ∧ RepM w I α es en' := by
  match en, h with
  | [], h => simp [RepM] at h
  | y :: en', h => exact ⟨y, en', rfl, h.2 0 _ _ rfl rfl, by have := h.1; simpa using this, fun i a b h1 h2 => h.2 (i + 1) _ _ (by simpa using h1) (by simpa using h2)⟩
theorem RepM.cons {x : AV × AV} {y : MapEntry} {es : List (AV × AV)} {en : List MapEntry} (h : RepE w I α x y) (t : RepM w I α es en) : RepM w I α (x :: es) (y :: en) :=
  ⟨by simp [t.1], fun i a b h1 h2 => by
    cases i with
    | zero => simp at h1 h2; subst h1; subst h2; exact h
    | succ i => simp at h1 h2; exact t.2 i _ _ h1 h2⟩
theorem RepM.nil_inv {en : List MapEntry} (h : RepM w I α [] en) : en = [] := List.eq_nil_of_length_eq_zero (by have := h.1; simpa using this.symm)

theorem find_rep {kd : TypeDesc} {k : AV} {k' : Value} (hkd : keyKindD kd k = true) (hk : Rep w I α k k') : ∀ {es : List (AV × AV)} {en : List MapEntry} {r : Option AV} (i : Nat), RepM w I α es en → keyFind k es = some r →
    (r = none ∧ Instr.findNow kd k' en i = some none) ∨ ∃ v v' j, r = some v ∧ Instr.findNow kd k' en i = some (some (j, v')) ∧ Rep w I α v v'
  | [], en, r, i, hm, h => by
    rw [hm.nil_inv]
    simp [keyFind] at h; subst h
    exact .inl ⟨rfl, rfl⟩
  | (x, v) :: t, en, r, i, hm, h => by
    obtain ⟨y, en', rfl, ⟨h1, h2⟩, h3⟩ := hm.cons_inv
    simp only [keyFind] at h
    split at h
    · rename_i he
      simp only [Option.some.injEq] at h; subst h
      exact .inr ⟨v, y.val, i, rfl, by simp [Instr.findNow, keyEq_rep hkd hk h1 he], h2⟩
    · rename_i he
      simp only [Instr.findNow, keyEq_rep hkd hk h1 he]
      exact find_rep hkd hk (i + 1) h3 h
    · simp at h

theorem run_checkKey {b : Bool} {kt : TypeId} {kd : TypeDesc} {k : AV} {k' : Value} (ht : P.underlying kt = some kd) (hkd : keyKindD kd k = true) (hk : Rep w I α k k') : (Instr.checkKey b 10000 kt k').run P w = .ok () w := by
  unfold keyKindD at hkd
  unfold Instr.checkKey
  split at hkd
  · cases hk; simp only [Sem.run_bind, run_underlying' ht, Result.andThen_ok]; rfl
  · cases hk; simp only [Sem.run_bind, run_underlying' ht, Result.andThen_ok]; rfl
  · simp at hkd

theorem implV_lookup {t : TypeId} {m k : AV} {m' k' : Value} {ok : Bool} {e : Eff} (c : Ctx P G call w I α H rid nx) (hm : Rep w I α m m') (hk : Rep w I α k k') (h : lookupA P t m k ok = some e) :
    ImplV P G call w I α H rid nx (Instr.lookup t m' k' ok) e := by
  unfold lookupA at h
  split at h
  · rename_i kt et ht
    split at h
    · rename_i z hkk hz
      obtain ⟨kd, hkt, hkd⟩ := keyKind_eq hkk
      obtain ⟨i, zv, g1, g2, g3⟩ := zeroA_info hz
      have hzr : Rep w I α z zv := rep_ofValue g3
      have ans : ∀ (r : Option AV) (v' : Value), (match r with | some v => Rep w I α v v' | none => v' = zv) → Rep w I α (lookAns ok z r) (if ok then .tuple #[v', .bool r.isSome] else v') := fun r v' hr => by
        cases ok <;> cases r <;> simp only [lookAns, if_true, Bool.false_eq_true, if_false, Option.isSome_some, Option.isSome_none]
        · simp only at hr; subst hr; exact hzr
        · exact hr
        · simp only at hr; subst hr; exact Rep.tuple_iff.2 ⟨_, rfl, .cons hzr (.cons (.bool _) .nil)⟩
        · exact Rep.tuple_iff.2 ⟨_, rfl, .cons hr (.cons (.bool _) .nil)⟩
      split at h
      · simp only [Option.some.injEq] at h; subst h
        cases hm
        refine implV_val c ?_ (ans none zv rfl)
        have hf : Instr.findNow kd k' [] 0 = some none := rfl
        cases ok <;> simp [Instr.lookup, run_underlying' ht, run_checkKey hkt hkd hk, Instr.findKey, run_underlying' hkt, hf, run_zeroValue' g1 g2]
      · rename_i id
        simp only [Option.some.injEq] at h; subst h
        cases hm with
        | map _ b hb =>
          refine impl_read c fun blk b' e' hg hα hB hkk => ?_
          rw [hb] at hα; cases hα
          split at hkk
          · rename_i cl st es
            split at hkk
            · rename_i r hr
              simp only [Option.some.injEq] at hkk; subst hkk
              obtain ⟨en, q1, q2, q4, q3⟩ := hB
              have hM : RepM w I α es en.toList := ⟨by simpa using q2, fun i x y h1 h2 => q3 i x y h1 (by simpa using h2)⟩
              have hget : (getObj b).run P w = .ok (.map en cl) w := by simp [getObj, Sem.run, q1]
              rcases find_rep hkd hk 0 hM hr with ⟨rfl, hf⟩ | ⟨v, v', j, rfl, hf, hv⟩
              · refine implV_val c ?_ (ans none zv rfl)
                cases ok <;> simp [Instr.lookup, run_underlying' ht, hget, run_checkKey hkt hkd hk, Instr.findKey, run_underlying' hkt, hf, run_zeroValue' g1 g2]
              · refine implV_val c ?_ (ans (some v) v' hv)
                cases ok <;> simp [Instr.lookup, run_underlying' ht, hget, run_checkKey hkt hkd hk, Instr.findKey, run_underlying' hkt, hf]
            · simp at hkk
          · simp at hkk
      · simp at h
    · simp at h
  · simp at h

theorem set_rep {kd : TypeDesc} {k v : AV} {k' v' : Value} (hkd : keyKindD kd k = true) (hk : Rep w I α k k') (hv : Rep w I α v v') : ∀ {es es' : List (AV × AV)} {en : List MapEntry} (i : Nat), RepM w I α es en → keySet k v es = some es' →
    (Instr.findNow kd k' en i = some none ∧ ∀ born, RepM w I α es' (en ++ [⟨k', v', born⟩])) ∨
    ∃ j u old, Instr.findNow kd k' en i = some (some (i + j, u)) ∧ en[j]? = some old ∧ Instr.sameNow kd k' old.key = some true ∧ RepM w I α es' (en.set j { old with key := k', val := v' })
  | [], es', en, i, hm, h => by
    rw [hm.nil_inv]
    simp [keySet] at h; subst h
    exact .inl ⟨rfl, fun born => .cons ⟨hk, hv⟩ ⟨rfl, by simp⟩⟩
  | (x, u) :: t, es', en, i, hm, h => by
    obtain ⟨y, en', rfl, ⟨h1, h2⟩, h3⟩ := hm.cons_inv
    simp only [keySet] at h
    split at h
    · rename_i he
      simp only [Option.some.injEq] at h; subst h
      refine .inr ⟨0, y.val, y, by simp [Instr.findNow, keyEq_rep hkd hk h1 he], rfl, keyEq_rep hkd hk h1 he, ?_⟩
      exact .cons ⟨hk, hv⟩ h3
    · rename_i he
      split at h
      · rename_i u' hu'
        simp only [Option.some.injEq] at h; subst h
        simp only [Instr.findNow, keyEq_rep hkd hk h1 he]
        rcases set_rep hkd hk hv (i + 1) h3 hu' with ⟨e1, e2⟩ | ⟨j, u2, old, e1, e2, e3, e4⟩
        · exact .inl ⟨e1, fun born => .cons ⟨h1, h2⟩ (e2 born)⟩
        · exact .inr ⟨j + 1, u2, old, by rw [e1]; congr 3; omega, by simpa using e2, e3, .cons ⟨h1, h2⟩ e4⟩
      · simp at h
    · simp at h

theorem same_bits {kd : TypeDesc} {k : AV} {a b : Value} (hkd : keyKindD kd k = true) (hk : Rep w I α k b) (h : Instr.sameNow kd b a = some true) : Instr.sameBits 10000 a b = true := by
  unfold keyKindD at hkd
  split at hkd
  · cases hk
    cases a <;> simp [Instr.sameNow] at h
    rw [beq_toListBytes] at h
    simp only [Instr.sameBits]
    rw [beq_toListBytes]
    simp only [beq_iff_eq] at h ⊢
    exact h.symm
  · cases hk
    cases a <;> simp [Instr.sameNow] at h
    obtain ⟨rfl, h⟩ := h
    simp [Instr.sameBits, h]
  · simp at hkd

theorem implU_mapUpdate {t : TypeId} {m k v : AV} {m' k' v' : Value} {e : Eff} (c : Ctx P G call w I α H rid nx) (hm : Rep w I α m m') (hk : Rep w I α k k') (hv : Rep w I α v v') (h : mapUpdateA P t m k v = some e) :
    ImplU P G call w I α H rid nx (Instr.mapUpdate t m' k' v') e := by
  unfold mapUpdateA at h
  split at h
  · rename_i kt et ht
    split at h
    · rename_i hkk
      obtain ⟨kd, hkt, hkd⟩ := keyKind_eq hkk
      split at h
      · rename_i id
        simp only [Option.some.injEq] at h; subst h
        cases hm with
        | map _ b hb =>
          refine impl_upd c fun blk b' blk' u hg hα hB hkq => ?_
          rw [hb] at hα; cases hα
          split at hkq
          · rename_i cl st es
            split at hkq
            · rename_i es' hes'
              obtain ⟨en, q1, q2, q4, q3⟩ := hB
              have hM : RepM w I α es en.toList := ⟨by simpa using q2, fun i x y h1 h2 => q3 i x y h1 (by simpa using h2)⟩
              have hget : (getObj b).run P w = .ok (.map en cl) w := by simp [getObj, Sem.run, q1]
              have hset : ∀ (o : Obj), (setObj b o).run P w = .ok () { w with heap := w.heap.setIfInBounds b o } := fun o => by simp [setObj, Sem.run, q1]
              have hlt : b < w.heap.size := (Array.getElem?_eq_some_iff.1 q1).1
              have fin : ∀ (en' : Array MapEntry) cl', RepM w I α es' en'.toList → Post G w I α H rid nx undefA (hins H id (.mapb cl' (en'.toList.map (·.born)) es')) nx undef { w with heap := w.heap.setIfInBounds b (.map en' cl') } := fun en' cl' hM' => by
                refine post_upd c hg hb (by simp) (fun k hk => by simp [Ne.symm hk]) (by simp only [World.shape?, q1]; rw [show (w.heap.setIfInBounds b (.map en' cl'))[b]? = some (.map en' cl') from by simp [hlt]]) (fun rel ev => ?_) (fun _ _ => Rep.tuple_iff.2 ⟨_, rfl, .nil⟩)
                refine ⟨en', by simp [hlt], by have := hM'.1; simpa using this, rfl, fun i x y h1 h2 => ?_⟩
                have := hM'.2 i x y h1 (by simpa using h2)
                exact ⟨this.1.ev c.rel ev, this.2.ev c.rel ev⟩
              rcases set_rep hkd hk hv 0 hM hes' with ⟨hf, hr⟩ | ⟨j, u, old, hf, ho, hsame, hr⟩
              · have hrun : (Instr.mapUpdate t (.map (some b)) k' v').run P w = .ok () { w with heap := w.heap.setIfInBounds b (.map (en.push { key := k', val := v', born := cl }) (cl + 1)) } := by
                  simp [Instr.mapUpdate, run_underlying' ht, hget, run_checkKey hkt hkd hk, Instr.findKey, run_underlying' hkt, hf, hset]
                have hb : Nat.beq (lenN es') (lenN es) = false := by
                  rw [beq_false_iff, lenN_eq, lenN_eq]
                  have h1 := (hr cl).1
                  have h2 := hM.1
                  simp at h1 h2; omega
                rw [hb] at hkq
                simp only [Option.some.injEq, Prod.mk.injEq] at hkq
                obtain ⟨rfl, rfl⟩ := hkq
                rw [hrun]
                have := fin (en.push { key := k', val := v', born := cl }) (cl + 1) (by simpa using hr cl)
                simp only [Array.toList_push, List.map_append, List.map_cons, List.map_nil] at this
                rw [q4]
                exact this
              · simp only [Nat.zero_add] at hf
                have hoa : en[j]? = some old := by simpa using ho
                have hkeep : (Instr.keyThatStays old.key k').run P w = .ok k' w := by simp [Instr.keyThatStays, same_bits hkd hk hsame]
                have hrun : (Instr.mapUpdate t (.map (some b)) k' v').run P w = .ok () { w with heap := w.heap.setIfInBounds b (.map (en.modify j fun e => { e with key := k', val := v' }) cl) } := by
                  simp [Instr.mapUpdate, run_underlying' ht, hget, run_checkKey hkt hkd hk, Instr.findKey, run_underlying' hkt, hf, hset, hoa, hkeep]
                have hb : Nat.beq (lenN es') (lenN es) = true := by
                  rw [beq_iff, lenN_eq, lenN_eq]
                  have h1 := hr.1
                  have h2 := hM.1
                  simp at h1 h2; omega
                rw [hb] at hkq
                simp only [Option.some.injEq, Prod.mk.injEq] at hkq
                obtain ⟨rfl, rfl⟩ := hkq
                rw [hrun]
                have hl : (en.modify j fun e => { e with key := k', val := v' }).toList = en.toList.set j { old with key := k', val := v' } := by
                  apply List.ext_getElem?
                  intro i
                  simp only [Array.getElem?_toList, Array.getElem?_modify, List.getElem?_set]
                  by_cases hij : j = i
                  · subst hij
                    have hj : j < en.size := (Array.getElem?_eq_some_iff.1 hoa).1
                    rw [hoa]; simp [hj]
                  · simp [hij]
                have := fin (en.modify j fun e => { e with key := k', val := v' }) cl (by rw [hl]; exact hr)
                have hst : (en.modify j fun e => { e with key := k', val := v' }).toList.map (·.born) = st := by
                  rw [hl, q4]
                  apply List.ext_getElem?
                  intro i
                  simp only [List.getElem?_map, List.getElem?_set]
                  by_cases hij : j = i
                  · subst hij
                    have hj : j < en.size := (Array.getElem?_eq_some_iff.1 hoa).1
                    have ho' : en.toList[j]? = some old := by simpa using hoa
                    simp only [ho']; simp [hj]
                  · simp [hij]
                rw [hst] at this
                exact this
            · simp at hkq
          · simp at hkq
      · simp at h
    · simp at h
  · simp at h

/-! ### Maps: entries gone, entries walked -/

theorem idx_rep {kd : TypeDesc} {k : AV} {k' : Value} (hkd : keyKindD kd k = true) (hk : Rep w I α k k') : ∀ {es : List (AV × AV)} {en : List MapEntry} {r : Option Nat} (i : Nat), RepM w I α es en → keyIdx k es i = some r →
    (r = none ∧ Instr.findNow kd k' en i = some none) ∨ ∃ v' j, r = some j ∧ Instr.findNow kd k' en i = some (some (j, v'))
  | [], en, r, i, hm, h => by
    rw [hm.nil_inv]
    simp [keyIdx] at h; subst h
    exact .inl ⟨rfl, rfl⟩
  | (x, v) :: t, en, r, i, hm, h => by
    obtain ⟨y, en', rfl, ⟨h1, h2⟩, h3⟩ := hm.cons_inv
    simp only [keyIdx] at h
    split at h
    · rename_i he
      simp only [Option.some.injEq] at h; subst h
      exact .inr ⟨y.val, i, rfl, by simp [Instr.findNow, keyEq_rep hkd hk h1 he]⟩
    · rename_i he
      simp only [Instr.findNow, keyEq_rep hkd hk h1 he]
      exact idx_rep hkd hk (i + 1) h3 h
    · simp at h

theorem RepM.erase : ∀ {es : List (AV × AV)} {en : List MapEntry} (i : Nat), RepM w I α es en → RepM w I α (es.eraseIdx i) (en.eraseIdx i)
  | [], en, i, h => by rw [h.nil_inv]; exact ⟨rfl, by simp⟩
  | x :: t, en, i, h => by
    obtain ⟨y, en', rfl, h1, h2⟩ := h.cons_inv
    cases i with
    | zero => simpa using h2
    | succ i => simpa using RepM.cons h1 (RepM.erase i h2)
theorem map_erase : ∀ (l : List MapEntry) (i : Nat), (l.eraseIdx i).map (·.born) = (l.map (·.born)).eraseIdx i
  | [], i => by simp
  | a :: t, 0 => by simp
  | a :: t, i + 1 => by simp [map_erase t i]
theorem toList_erase (a : Array MapEntry) (i : Nat) : (a.eraseIdxIfInBounds i).toList = a.toList.eraseIdx i := by
  unfold Array.eraseIdxIfInBounds
  split
  · simp [Array.toList_eraseIdx]
  · rename_i h
    rw [List.eraseIdx_of_length_le]
    simpa using h

theorem implV_delete {argTypes : Array TypeId} {ty : TypeId} {m k : AV} {m' k' : Value} {e : Eff} (c : Ctx P G call w I α H rid nx) (hm : Rep w I α m m') (hk : Rep w I α k k') (h : deleteA P argTypes m k = some e) :
    ImplV P G call w I α H rid nx (Builtin.delete_ argTypes ty #[m', k']) e := by
  unfold deleteA at h
  split at h
  · rename_i t h0
    split at h
    · rename_i kt et ht
      split at h
      · rename_i hkk
        obtain ⟨kd, hkt, hkd⟩ := keyKind_eq hkk
        split at h
        · rename_i id
          simp only [Option.some.injEq] at h; subst h
          cases hm with
          | map _ b hb =>
            refine impl_upd c fun blk b' blk' u hg hα hB hkq => ?_
            rw [hb] at hα; cases hα
            split at hkq
            · rename_i cl st es
              obtain ⟨en, q1, q2, q4, q3⟩ := hB
              have hM : RepM w I α es en.toList := ⟨by simpa using q2, fun i x y h1 h2 => q3 i x y h1 (by simpa using h2)⟩
              have hget : (getObj b).run P w = .ok (.map en cl) w := by simp [getObj, Sem.run, q1]
              have hset : ∀ (o : Obj), (setObj b o).run P w = .ok () { w with heap := w.heap.setIfInBounds b o } := fun o => by simp [setObj, Sem.run, q1]
              have hlt : b < w.heap.size := (Array.getElem?_eq_some_iff.1 q1).1
              have fin : ∀ (en' : Array MapEntry) es' st', RepM w I α es' en'.toList → st' = en'.toList.map (·.born) → Post G w I α H rid nx (.tuple []) (hins H id (.mapb cl st' es')) nx (.tuple #[]) { w with heap := w.heap.setIfInBounds b (.map en' cl) } := fun en' es' st' hM' hst => by
                refine post_upd c hg hb (by simp) (fun k hk => by simp [Ne.symm hk]) (by simp only [World.shape?, q1]; rw [show (w.heap.setIfInBounds b (.map en' cl))[b]? = some (.map en' cl) from by simp [hlt]]) (fun rel ev => ?_) (fun _ _ => Rep.tuple_iff.2 ⟨_, rfl, .nil⟩)
                refine ⟨en', by simp [hlt], by have := hM'.1; simpa using this, hst, fun i x y h1 h2 => ?_⟩
                have := hM'.2 i x y h1 (by simpa using h2)
                exact ⟨this.1.ev c.rel ev, this.2.ev c.rel ev⟩
              split at hkq
              · rename_i i hi
                simp only [Option.some.injEq, Prod.mk.injEq] at hkq
                obtain ⟨rfl, rfl⟩ := hkq
                rcases idx_rep hkd hk 0 hM hi with ⟨hr, _⟩ | ⟨v', j, hr, hf⟩
                · cases hr
                · cases hr
                  have hrun : (Builtin.delete_ argTypes ty #[.map (some b), k']).run P w = .ok (.tuple #[]) { w with heap := w.heap.setIfInBounds b (.map (en.eraseIdxIfInBounds i) cl) } := by
                    simp [Builtin.delete_, h0, run_underlying' ht, hget, run_checkKey hkt hkd hk, Instr.findKey, run_underlying' hkt, hf, hset]
                  rw [hrun]
                  exact fin _ _ _ (by rw [toList_erase]; exact hM.erase i) (by rw [toList_erase, map_erase, q4])
              · rename_i hi
                simp only [Option.some.injEq, Prod.mk.injEq] at hkq
                obtain ⟨rfl, rfl⟩ := hkq
                rcases idx_rep hkd hk 0 hM hi with ⟨_, hf⟩ | ⟨v', j, hr, _⟩
                · have hrun : (Builtin.delete_ argTypes ty #[.map (some b), k']).run P w = .ok (.tuple #[]) { w with heap := w.heap.setIfInBounds b (.map en cl) } := by
                    simp [Builtin.delete_, h0, run_underlying' ht, hget, run_checkKey hkt hkd hk, Instr.findKey, run_underlying' hkt, hf, hset]
                  rw [hrun]
                  exact fin _ _ _ hM q4
                · cases hr
              · simp at hkq
            · simp at hkq
        · simp at h
      · simp at h
    · simp at h
  · simp at h

theorem memN_contains : ∀ (l : List Nat) (x : Nat), memN l x = l.contains x
  | [], _ => rfl
  | a :: t, x => by
    simp only [memN, List.contains_cons]
    cases h : Nat.beq a x with
    | true => rw [beq_iff.1 h]; simp
    | false => rw [memN_contains t x, beq_eq_false_iff_ne.2 (Ne.symm (beq_false_iff.1 h))]; rfl

theorem allLt_iff : ∀ {l : List Nat} {n : Nat}, allLt l n = true → ∀ x ∈ l, x < n
  | [], _, _, _, h => by cases h
  | a :: t, n, h, x, hx => by
    simp only [allLt, Bool.and_eq_true] at h
    rcases List.mem_cons.1 hx with rfl | hx
    · exact blt_iff.1 h.1
    · exact allLt_iff h.2 x hx

theorem alts_rep {m since : Nat} {seen : List Nat} {cl : Nat} : ∀ {es : List (AV × AV)} {st : List Nat} {en : List MapEntry} {l : List (AV × Blk)}, RepM w I α es en → st = en.map (·.born) → altsA m since seen cl st es = some l →
    (∀ e ∈ en, seen.contains e.born = false → ∃ v, (v, Blk.miter m since (seen ++ [e.born]) cl) ∈ l ∧ Rep w I α v (.tuple #[.bool true, e.key, e.val])) ∧ ((∀ e ∈ en, seen.contains e.born = true) → l = [])
  | [], st, en, l, hm, hs, h => by
    have := hm.nil_inv; subst this
    simp at hs; subst hs
    simp [altsA] at h; subst h
    exact ⟨by simp, fun _ => rfl⟩
  | (k, v) :: es, st, en, l, hm, hs, h => by
    obtain ⟨y, en', rfl, ⟨h1, h2⟩, h3⟩ := hm.cons_inv
    simp only [List.map_cons] at hs; subst hs
    simp only [altsA] at h
    split at h
    · rename_i l' hl'
      obtain ⟨a1, a2⟩ := alts_rep h3 rfl hl'
      rw [memN_contains] at h
      split at h
      · rename_i hc
        cases h
        refine ⟨fun e he hn => ?_, fun ha => a2 fun e he => ha e (by simp [he])⟩
        rcases List.mem_cons.1 he with rfl | he
        · rw [hc] at hn; cases hn
        · exact a1 e he hn
      · rename_i hc
        cases h
        refine ⟨fun e he hn => ?_, fun ha => ?_⟩
        · rcases List.mem_cons.1 he with rfl | he
          · exact ⟨_, by simp, Rep.tuple_iff.2 ⟨_, rfl, .cons (.bool true) (.cons h1 (.cons h2 .nil))⟩⟩
          · obtain ⟨v', e1, e2⟩ := a1 e he hn
            exact ⟨v', by simp [e1], e2⟩
        · have := ha y (by simp)
          rw [hc] at this; cases this
    · simp at h

/-- The next entry, whichever it is. -/
theorem next_out {id it : Nat} {m since last : Nat} {seen : List Nat} {mp : Blk} {l : List (AV × Blk)} {ty : TypeId} (c : Ctx P G call w I α H rid nx) (hit : α id = some it) (hg : hget H id = some (.miter m since seen last)) (hm : hget H m = some mp)
    (hl : nextL (.miter m since seen last) mp = some l) :
    (l = [] ∧ (Instr.next (.pointer (some ⟨it, 0, none⟩)) false ty).run P w = .ok (.tuple #[.bool false]) w) ∨
    ∃ v b v' w', (v, b) ∈ l ∧ (Instr.next (.pointer (some ⟨it, 0, none⟩)) false ty).run P w = .ok v' w' ∧ Post G w I α H rid nx v (hins H id b) nx v' w' := by
  cases mp with
  | mapb cl st es =>
    simp only [nextL] at hl
    split at hl
    · rename_i hc
      rw [Bool.and_eq_true] at hc
      obtain ⟨b1, e1, _, mb, hmb, hI⟩ := c.rel.live id _ hg
      rw [hit] at e1; cases e1
      obtain ⟨b2, e2, _, en, q1, q2, q4, q3⟩ := c.rel.live m _ hm
      rw [hmb] at e2; cases e2
      have hM : RepM w I α es en.toList := ⟨by simpa using q2, fun i x y h1 h2 => q3 i x y h1 (by simpa using h2)⟩
      obtain ⟨a1, a2⟩ := alts_rep hM q4 hl
      have hlt : it < w.heap.size := (Array.getElem?_eq_some_iff.1 hI).1
      rcases run_next_at (P := P) w ty it mb since last seen.toArray en cl hI q1 (fun x hx => allLt_iff hc.1 x.born (by rw [q4]; exact List.mem_map_of_mem hx)) (Nat.le_of_ble_eq_true hc.2) with ⟨h1, h2⟩ | ⟨e, h1, w1, h2, h3⟩
      · refine .inl ⟨a2 fun e he => ?_, h2⟩
        unfold leftOf at h1
        have h1' := Array.eq_empty_of_size_eq_zero h1
        rw [Array.filter_eq_empty_iff] at h1'
        have := h1' e (by simpa using he)
        simpa using this
      · unfold leftOf at h1
        simp only [Array.mem_toList_iff, Array.mem_filter] at h1
        obtain ⟨v, k1, k2⟩ := a1 e (by simpa using h1.1) (by simpa using h1.2)
        refine .inr ⟨v, _, _, _, k1, h3, ?_⟩
        have hw1 : w1.heap = w.heap ∧ SameOs w w1 := by rcases h2 with rfl | rfl <;> exact ⟨rfl, rfl, rfl, rfl⟩
        have hb' : (ChangeMaps.setBlock w1 it (.mapIter (some mb) since (seen.toArray.push e.born) cl)).heap = w.heap.setIfInBounds it (.mapIter (some mb) since (seen.toArray.push e.born) cl) := by simp [ChangeMaps.setBlock, hw1.1]
        refine post_upd (w' := ChangeMaps.setBlock w1 it (.mapIter (some mb) since (seen.toArray.push e.born) cl)) c hg hit (by rw [hb']; simp) (fun k hk => by rw [hb']; simp [Ne.symm hk]) ?_ (fun rel ev => ⟨mb, hmb, by rw [hb']; simp [hlt]⟩) (fun rel ev => k2.ev c.rel ev) ⟨hw1.2.1, hw1.2.2.1, hw1.2.2.2⟩
        simp only [World.shape?, hb', hI]
        rw [show (w.heap.setIfInBounds it (.mapIter (some mb) since (seen.toArray.push e.born) cl))[it]? = some (.mapIter (some mb) since (seen.toArray.push e.born) cl) from by simp [hlt]]
    · simp at hl
  | _ => simp [nextL] at hl

theorem implV_next {x : AV} {x' : Value} {b : Bool} {ty : TypeId} {e : Eff} (c : Ctx P G call w I α H rid nx) (hx : Rep w I α x x') (h : nextA x b = some e) : ImplV P G call w I α H rid nx (Instr.next x' b ty) e := by
  unfold nextA at h
  split at h
  · rename_i id
    cases h
    cases hx with
    | ptr _ _ it hit =>
      refine impl_read c fun blk b' e' hg hα hB hk => ?_
      rw [hit] at hα; cases hα
      split at hk
      · rename_i m since seen last
        cases hk
        refine impl_read c fun blk2 b2 e2 hg2 hα2 hB2 hk2 => ?_
        split at hk2
        · rename_i hl
          cases hk2
          rcases next_out (ty := ty) c hit hg hg2 hl with ⟨_, hr⟩ | ⟨v, b, v', w', hm, _⟩
          · exact implV_val c hr (Rep.tuple_iff.2 ⟨_, rfl, .cons (.bool false) .nil⟩)
          · cases hm
        · rename_i v bl hl
          cases hk2
          refine impl_upd c fun blk3 b3 blk' u hg3 hα3 hB3 hk3 => ?_
          split at hk3
          · cases hk3
            rcases next_out (ty := ty) c hit hg hg2 hl with ⟨h0, _⟩ | ⟨v', b', u', w', hm, hr, hp⟩
            · cases h0
            · simp only [List.mem_singleton, Prod.mk.injEq] at hm
              obtain ⟨rfl, rfl⟩ := hm
              rw [hr]; exact hp
          · simp at hk3
        · simp at hk2
      · simp at hk
  · simp at h

theorem implV_range {t : TypeId} {x : AV} {x' : Value} {e : Eff} (c : Ctx P G call w I α H rid nx) (hx : Rep w I α x x') (h : rangeA P t x = some e) : ImplV P G call w I α H rid nx (Instr.range t x') e := by
  unfold rangeA at h
  split at h
  · rename_i m ht
    cases h
    cases hx with
    | map _ b hb =>
      refine impl_read c fun blk b' e' hg hα hB hk => ?_
      rw [hb] at hα; cases hα
      split at hk
      · rename_i cl st es
        cases hk
        obtain ⟨en, q1, q2, q4, q3⟩ := hB
        have hget : (getObj b).run P w = .ok (.map en cl) w := by simp [getObj, Sem.run, q1]
        have hrun : (Instr.range t (.map (some b))).run P w = .ok (.pointer (some ⟨w.heap.size, 0, none⟩)) { w with heap := w.heap.push (.mapIter (some b) cl #[] cl) } := by
          simp [Instr.range, run_underlying' ht, hget, newObj, Sem.run]
        refine impl_new c (w' := { w with heap := w.heap.push (.mapIter (some b) cl #[] cl) }) (v' := .pointer (some ⟨w.heap.size, 0, none⟩)) (by rw [hrun]; rfl) rfl (fun α' hα' rel => ⟨b, hα' _ _ hb, by simp⟩) (fun α' hα' => .ptr _ _ _ hα')
      · simp at hk
  · simp at h

theorem stamp_rep {s : Nat} : ∀ {es : List (AV × AV)} {st : List Nat} {en : List MapEntry} {v : AV}, RepM w I α es en → st = en.map (·.born) → stampAt s st es = some v →
    ∃ e, en.find? (·.born == s) = some e ∧ Rep w I α v (.tuple #[e.key, e.val])
  | [], st, en, v, hm, hs, h => by
    have := hm.nil_inv; subst this
    simp at hs; subst hs
    simp [stampAt] at h
  | (k, u) :: es, st, en, v, hm, hs, h => by
    obtain ⟨y, en', rfl, ⟨h1, h2⟩, h3⟩ := hm.cons_inv
    simp only [List.map_cons] at hs; subst hs
    simp only [stampAt] at h
    split at h
    · rename_i hb
      cases h
      exact ⟨y, by simp [beq_iff.1 hb], Rep.tuple_iff.2 ⟨_, rfl, .cons h1 (.cons h2 .nil)⟩⟩
    · rename_i hb
      obtain ⟨e, e1, e2⟩ := stamp_rep h3 rfl h
      exact ⟨e, by rw [List.find?_cons, beq_eq_false_iff_ne.2 (beq_false_iff.1 hb)]; exact e1, e2⟩

theorem lastN_rep : ∀ {l : List Nat} {s : Nat}, lastN l = some s → l.toArray.back? = some s
  | [], _, h => by simp [lastN] at h
  | [a], _, h => by simp [lastN] at h; subst h; rfl
  | a :: b :: t, s, h => by
    simp only [lastN] at h
    have := lastN_rep h
    simpa using this

theorem implV_entry {x : AV} {x' : Value} {e : Eff} (c : Ctx P G call w I α H rid nx) (hx : Rep w I α x x') (h : entryA x = some e) : ImplV P G call w I α H rid nx (Instr.entry x') e := by
  unfold entryA at h
  split at h
  · rename_i id
    cases h
    cases hx with
    | ptr _ _ it hit =>
      refine impl_read c fun blk b' e' hg hα hB hk => ?_
      rw [hit] at hα; cases hα
      split at hk
      · rename_i m since seen last
        cases hk
        obtain ⟨mb, hmb, hI⟩ := hB
        refine impl_read c fun blk2 b2 e2 hg2 hα2 hB2 hk2 => ?_
        rw [hmb] at hα2; cases hα2
        split at hk2
        · rename_i cl st es
          split at hk2
          · rename_i s hcl hs
            split at hk2
            · rename_i v hv
              cases hk2
              have hcl := beq_iff.1 hcl
              subst hcl
              obtain ⟨en, q1, q2, q4, q3⟩ := hB2
              have hM : RepM w I α es en.toList := ⟨by simpa using q2, fun i x y h1 h2 => q3 i x y h1 (by simpa using h2)⟩
              obtain ⟨e, e1, e2⟩ := stamp_rep hM q4 hv
              have e1' : en.find? (·.born == s) = some e := by rw [← Array.find?_toList]; exact e1
              refine implV_val c ?_ e2
              simp only [Instr.entry, getObj, Sem.run_bind, Sem.run, hI, q1, Result.andThen, lastN_rep hs, bne_self_eq_false, Bool.false_eq_true, if_false, e1']
              rfl
            · simp at hk2
          · simp at hk2
        · simp at hk2
      · simp at hk
  · simp at h

end
end Go.Proofs.Abs
