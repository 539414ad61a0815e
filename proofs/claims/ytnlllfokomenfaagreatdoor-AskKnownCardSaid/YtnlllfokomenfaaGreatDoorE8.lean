/- Stores; rows as sources; append. -/
import Derived.Test.YtnlllfokomenfaaGreatDoorE7
namespace Go.Proofs.Abs
open Go

theorem allOne_mem : ∀ {l : List AV}, allOne l = true → ∀ a ∈ l, a.one = true
  | [], _, _, h => by cases h
  | x :: t, h, a, ha => by
    simp only [allOne, Bool.and_eq_true] at h
    rcases List.mem_cons.1 ha with rfl | ha
    · exact h.1
    · exact allOne_mem h.2 a ha

theorem allSize_mem : ∀ {sz : Nat} {l : List AV}, allSize sz l = true → ∀ a ∈ l, a.cells.length = sz
  | _, [], _, _, h => by cases h
  | sz, x :: t, h, a, ha => by
    simp only [allSize, Bool.and_eq_true] at h
    rcases List.mem_cons.1 ha with rfl | ha
    · have := beq_iff.1 h.1; rwa [lenN_eq] at this
    · exact allSize_mem h.2 a ha

theorem flat_length : ∀ {sz : Nat} {l : List AV}, (∀ a ∈ l, a.cells.length = sz) → (flat l).length = l.length * sz
  | _, [], _ => by simp [flat]
  | sz, x :: t, h => by
    simp only [flat, List.length_append, List.length_cons]
    rw [h x (by simp), flat_length (fun a ha => h a (by simp [ha])), Nat.add_mul]; omega

theorem flat_get : ∀ {sz : Nat} {l : List AV}, 0 < sz → (∀ a ∈ l, a.cells.length = sz) → ∀ (k : Nat) x, (flat l)[k]? = some x → ∃ e, l[k / sz]? = some e ∧ e.cells[k % sz]? = some x
  | _, [], _, _, k, x, h => by simp [flat] at h
  | sz, y :: t, hp, hs, k, x, h => by
    have hy := hs y (by simp)
    simp only [flat] at h
    by_cases hk : k < sz
    · rw [List.getElem?_append_left (by omega)] at h
      exact ⟨y, by simp [Nat.div_eq_of_lt hk], by rw [Nat.mod_eq_of_lt hk]; exact h⟩
    · have hk := Nat.le_of_not_lt hk
      rw [List.getElem?_append_right (by omega), hy] at h
      obtain ⟨e, h1, h2⟩ := flat_get hp (fun a ha => hs a (by simp [ha])) (k - sz) x h
      have e1 : k / sz = (k - sz) / sz + 1 := by rw [Nat.div_eq k sz, if_pos ⟨hp, hk⟩]
      have e2 : k % sz = (k - sz) % sz := Nat.mod_eq_sub_mod hk
      exact ⟨e, by rw [e1]; simpa using h1, by rw [e2]; exact h2⟩

section
variable {P : Program} {G : Glob} {call : Caller} {w : World} {I : Nat → Prop} {α : Nat → Option Nat} {H : Heap} {rid nx : Nat}

theorem RepL.take {a : List AV} {v : List Value} (h : RepL w I α a v) (n : Nat) : RepL w I α (a.take n) (v.take n) :=
  ⟨by simp [h.1], fun i x y h1 h2 => by
    by_cases hi : i < n
    · rw [List.getElem?_take_of_lt hi] at h1 h2; exact h.2 i x y h1 h2
    · rw [List.getElem?_eq_none (by simp; omega)] at h1; cases h1⟩
theorem RepL.drop {a : List AV} {v : List Value} (h : RepL w I α a v) (n : Nat) : RepL w I α (a.drop n) (v.drop n) :=
  ⟨by simp [h.1], fun i x y h1 h2 => by
    rw [List.getElem?_drop] at h1 h2; exact h.2 _ x y h1 h2⟩

theorem cell_heap {w' : World} (h : w'.heap = w.heap) (a : Addr) : w'.cell? a = w.cell? a := by simp [World.cell?, h]

/-- Some cells of a block overwritten: the block stands for the spliced row. -/
theorem bRel_splice {w' : World} {α' : Nat → Option Nat} {b : Nat} {c : Array Value} {e : TypeId} {l cs l' : List AV} {vs : List Value} {o : Nat} (hl : l.length ≤ c.size) (hlc : RepL w' I α' l (c.toList.take l.length))
    (hs : splice l o cs = some l') (hcs : RepL w' I α' cs vs) (hw : w'.heap[b]? = some (.cells (c.toList.take o ++ vs ++ c.toList.drop (o + vs.length)).toArray e (0, 0))) : BRel w' I α' b (.cells l') := by
  obtain ⟨e1, e2⟩ := splice_eq _ _ _ _ hs
  have hlen := splice_length hs
  refine ⟨_, e, hw, ?_, ?_⟩
  · rw [hlen]
    have hv := hcs.1
    rcases e2 with e2 | e2
    · subst e2; simp at hv; have : vs = [] := List.eq_nil_of_length_eq_zero hv.symm; subst this; simpa using hl
    · simp; omega
  · rw [hlen]
    have hv := hcs.1
    rcases e2 with e2 | e2
    · subst e2
      have : vs = [] := List.eq_nil_of_length_eq_zero (by simpa using hv.symm)
      subst this
      simp only [List.append_nil, List.length_nil, Nat.add_zero, List.take_append_drop] at e1 ⊢
      rw [e1]; exact hlc
    · have k1 := hlc.take o
      have k2 := hlc.drop (o + cs.length)
      have k3 := (k1.append hcs).append k2
      rw [e1]
      refine ⟨by simp; omega, fun i x y h1 h2 => k3.2 i x y h1 ?_⟩
      rw [← h2]
      have hi : i < l.length := by
        rcases Nat.lt_or_ge i l.length with h' | h'
        · exact h'
        · rw [← e1] at h1; rw [List.getElem?_eq_none (by omega)] at h1; cases h1
      simp only [List.take_take]
      rw [List.getElem?_take_of_lt hi]
      have ho : min o l.length = o := by omega
      rw [ho]
      have hoc : min o c.size = o := by omega
      by_cases h5 : i < o + vs.length
      · have L : ∀ (A C : List Value), i < A.length → (A ++ C)[i]? = A[i]? := fun A C h => List.getElem?_append_left h
        exact (L (List.take o c.toList ++ vs) _ (by simp [hoc]; omega)).trans (L (List.take o c.toList ++ vs) _ (by simp [hoc]; omega)).symm
      · have R : ∀ (A C : List Value), A.length ≤ i → (A ++ C)[i]? = C[i - A.length]? := fun A C h => List.getElem?_append_right h
        refine (R (List.take o c.toList ++ vs) _ (by simp [hoc]; omega)).trans (Eq.trans ?_ (R (List.take o c.toList ++ vs) _ (by simp [hoc]; omega)).symm)
        simp only [List.length_append, List.length_take, Array.length_toList]
        rw [List.getElem?_drop, List.getElem?_drop, List.getElem?_take_of_lt (by omega)]
        congr 1
        omega

/-- A store into an owned block. -/
theorem post_splice {b id o : Nat} {c : Array Value} {e : TypeId} {l cs l' : List AV} {vs : List Value} {v : AV} {v' : Value} (cx : Ctx P G call w I α H rid nx) (hg : hget H id = some (.cells l)) (hα : α id = some b)
    (hB : w.heap[b]? = some (.cells c e (0, 0))) (hl : l.length ≤ c.size) (hlc : RepL w I α l (c.toList.take l.length)) (hs : splice l o cs = some l') (hcs : RepL w I α cs vs)
    (hsz : o + vs.length ≤ c.size)
    (hv : ∀ w', Rel G w' I α (hdel H id) → Ev w I α H w' I α (hdel H id) → Rep w' I α v v') :
    Post G w I α H rid nx v (hins H id (.cells l')) nx v' (w.setRow b (c.toList.take o ++ vs ++ c.toList.drop (o + vs.length)).toArray) := by
  refine post_upd cx hg hα (by simp) (fun k hk => setRow_other w b k _ hk) ?_ (fun rel ev => ?_) (fun rel ev => hv _ rel ev)
  · simp only [World.shape?, setRow_heap w b c _ e _ hB, hB]
    simp; omega
  · exact bRel_splice hl (hlc.ev cx.rel ev) hs (hcs.ev cx.rel ev) (setRow_heap w b c _ e _ hB)

theorem implU_store {t : TypeId} {x y : AV} {x' y' : Value} {e : Eff} (c : Ctx P G call w I α H rid nx) (hx : Rep w I α x x') (hy : Rep w I α y y') (h : storeA P t x y = some e) :
    ImplU P G call w I α H rid nx (Instr.storeAt t x' y') e := by
  unfold storeA at h
  split at h
  · rename_i id off
    split at h
    · rename_i n hn
      split at h
      · rename_i hc
        simp only [Bool.and_eq_true] at hc
        have hlen : y.cells.length = n := by have := beq_iff.1 hc.1; rwa [lenN_eq] at this
        simp only [Option.some.injEq] at h; subst h
        cases hx with
        | ptr _ _ b hb =>
          refine impl_upd c fun blk b' blk' v hg hα hB hk => ?_
          rw [hb] at hα; cases hα
          split at hk
          · rename_i l
            simp only [Option.map_eq_some_iff, Prod.mk.injEq] at hk
            obtain ⟨l', hs, rfl, rfl⟩ := hk
            obtain ⟨cc, ee, h1, h2, h3⟩ := hB
            have hcs := hy.cells
            have hvs : y'.cells.size = n := by rw [← hlen, ← Array.length_toList]; exact hcs.1.symm
            have hone : ∀ u ∈ y'.cells.toList, u.oneCell' = true := fun u hu => by
              obtain ⟨i, hi⟩ := List.getElem?_of_mem hu
              have hi2 : i < y.cells.length := by
                rw [hcs.1]
                rcases Nat.lt_or_ge i y'.cells.toList.length with h' | h'
                · exact h'
                · rw [List.getElem?_eq_none h'] at hi; cases hi
              exact (hcs.2 i y.cells[i] u (by simp [hi2]) hi).one (allOne_mem hc.2 _ (List.getElem_mem hi2))
            obtain ⟨_, e2⟩ := splice_eq _ _ _ _ hs
            by_cases hz : y.cells = []
            · have hz' : y'.cells.toList = [] := by have := hcs.1; rw [hz] at this; exact List.eq_nil_of_length_eq_zero (by simpa using this.symm)
              have hn0 : n = 0 := by rw [← hlen, hz]; rfl
              have hrun : (Instr.storeAt t (.pointer (some ⟨b, off, none⟩)) y').run P w = .ok () w := by
                simp [Instr.storeAt, Instr.sureAddr, storeVar, run_sizeOf' hn, hvs, hz', storeCells]
              rw [hrun]
              have hl' : l' = l := by
                obtain ⟨e1, _⟩ := splice_eq _ _ _ _ hs
                rw [e1, hz]; simp
              subst hl'
              have hw : w = w.setRow b cc := (setRow_self w b cc ee _ h1).symm
              refine post_upd (w' := w) c hg hb rfl (fun _ _ => rfl) rfl (fun _ _ => ⟨cc, ee, h1, h2, h3⟩) (fun _ _ => Rep.tuple_iff.2 ⟨_, rfl, .nil⟩)
            · have hfit : off + y'.cells.toList.length ≤ cc.size := by
                rcases e2 with e2 | e2
                · exact absurd e2 hz
                · rw [← hcs.1]; omega
              have hrun : (Instr.storeAt t (.pointer (some ⟨b, off, none⟩)) y').run P w = .ok () (w.setRow b (cc.toList.take off ++ y'.cells.toList ++ cc.toList.drop (off + y'.cells.toList.length)).toArray) := by
                have := run_storeCells_at P b off ee y'.cells.toList 0 cc w h1 (by simpa using hfit) hone
                simp only [Nat.add_zero] at this
                simp only [Instr.storeAt, Instr.sureAddr, storeVar, Sem.run_bind, Sem.run_pure, Result.andThen_ok, run_sizeOf' hn, hvs]
                rw [if_neg (by simp)]
                simpa using this
              rw [hrun]
              exact post_splice c hg hb h1 h2 h3 hs hcs hfit (fun _ _ _ => Rep.tuple_iff.2 ⟨_, rfl, .nil⟩)
          · simp at hk
      · simp at h
    · simp at h
  · simp at h

/-! ### Sources -/

/-- The first cells of a row whose cells are known. -/
theorem run_first {w' : World} {b off n n' sz : Nat} {f : Nat → Value} (hc : ∀ j, j < n * sz → w.cell? ⟨b, off + j, none⟩ = some (f j)) (hn : n' ≤ n) (hw : w'.heap = w.heap) :
    (loadCells ⟨b, off, none⟩ (n' * sz)).run P w' = .ok (((List.range (n * sz)).map f).take (n' * sz)).toArray w' := by
  have hle : n' * sz ≤ n * sz := Nat.mul_le_mul_right _ hn
  rw [run_loadCells w' _ _ f (fun j hj => by rw [add_lit, cell_heap hw]; exact hc j (by omega))]
  congr 2
  rw [← List.map_take, List.take_range, Nat.min_eq_left hle]

theorem fsl_flat {full : Bool} {es : List AV} {x' : Value} {sz : Nat} (hx : Rep w I α (.fsl full es) x') (hs : allSize sz es = true) :
    ∃ a cap vs, x' = .slice a es.length cap ∧ es.length ≤ cap ∧ (full = true → cap = es.length) ∧ RepL w I α (flat es) vs ∧ vs.length = es.length * sz ∧
      ∀ n' w', n' ≤ es.length → w'.heap = w.heap → (Builtin.firstCells sz n' x').run P w' = .ok (vs.take (n' * sz)).toArray w' := by
  have hs' := allSize_mem hs
  cases hx with
  | fsl _ _ a len cap sz' b base g hl hc hf ha hI hsz hg hr =>
    subst hl
    by_cases hz : es.length * sz = 0
    · refine ⟨a, cap, [], rfl, hc, hf, ?_, by simpa using hz.symm, fun n' w' hn hw' => ?_⟩
      · have : flat es = [] := List.eq_nil_of_length_eq_zero (by rw [flat_length hs']; exact hz)
        rw [this]; exact .nil
      · cases a with
        | none => simp [Builtin.firstCells]
        | some a =>
          have : n' * sz = 0 := by
            have := Nat.mul_le_mul_right sz hn; omega
          simp [Builtin.firstCells, this, loadCells, loadCellsFrom]
    · have hsz0 : 0 < sz := Nat.pos_of_ne_zero (fun e => hz (by simp [e]))
      have hne : es ≠ [] := fun e => hz (by simp [e])
      have hsame : sz' = sz := by
        obtain ⟨x, hx⟩ := List.exists_mem_of_ne_nil es hne
        rw [← hsz x hx, hs' x hx]
      subst hsame
      subst ha
      have hget : ∀ k, k < es.length * sz' → ∃ x y, (flat es)[k]? = some x ∧ w.cell? ⟨b, base + k, none⟩ = some y ∧ Rep w I α x y := fun k hk => by
        have hlt : k < (flat es).length := by rw [flat_length hs']; exact hk
        obtain ⟨el, h1, h2⟩ := flat_get hsz0 hs' k (flat es)[k] (by simp [hlt])
        refine ⟨(flat es)[k], g (k / sz') (k % sz'), by simp [hlt], ?_, hr _ _ _ _ h1 h2⟩
        have := hg _ _ _ _ h1 h2
        rwa [show base + k / sz' * sz' + k % sz' = base + k by rw [Nat.add_assoc, Nat.div_add_mod']] at this
      let f : Nat → Value := fun k => (w.cell? ⟨b, base + k, none⟩).getD undef
      refine ⟨_, cap, (List.range (es.length * sz')).map f, rfl, hc, hf, ⟨by simp [flat_length hs'], fun i x y h1 h2 => ?_⟩, by simp, fun n' w' hn hw' => ?_⟩
      · have hi : i < es.length * sz' := by
          rcases Nat.lt_or_ge i (es.length * sz') with h' | h'
          · exact h'
          · rw [List.getElem?_eq_none (by rw [flat_length hs']; exact h')] at h1; cases h1
        obtain ⟨x', y', e1, e2, hrr⟩ := hget i hi
        rw [e1] at h1; cases h1
        simp [hi, f, e2] at h2
        subst h2; exact hrr
      · simp only [Builtin.firstCells]
        exact run_first (fun j hj => by
          obtain ⟨_, y', _, e2, _⟩ := hget j hj
          simp [f, e2]) hn hw'

theorem toBytes_rep : ∀ (s : List UInt8), RepL w I α (toBytes s) (s.map fun b => .int .u8 b.toNat)
  | [] => .nil
  | _ :: t => .cons (.int _ _) (toBytes_rep t)

theorem impl_src {m : Result Next} {sz : Nat} {x : AV} {x' : Value} {k : Nat → List AV → Option Eff} {e : Eff} (c : Ctx P G call w I α H rid nx) (hx : Rep w I α x x') (h : srcA sz x k = some e)
    (hk : ∀ n cs vs e', k n cs = some e' → RepL w I α cs vs → vs.length = n * sz → (Builtin.lenOf x').run P w = .ok n w →
      (∀ n' w', n' ≤ n → w'.heap = w.heap → (Builtin.firstCells sz n' x').run P w' = .ok (vs.take (n' * sz)).toArray w') → Impl P G call w I α H rid nx m e') :
    Impl P G call w I α H rid nx m e := by
  unfold srcA at h
  split at h
  · rename_i full es
    split at h
    · rename_i hs
      obtain ⟨a, cap, vs, rfl, hc, hf, h1, h2, h3⟩ := fsl_flat (P := P) hx hs
      rw [lenN_eq] at h
      exact hk _ _ _ _ h h1 h2 (by simp [Builtin.lenOf]) h3
    · simp at h
  · cases hx
    exact hk _ _ [] _ h .nil (by simp) (by simp [Builtin.lenOf]) (fun n' w' hn _ => by simp [Builtin.firstCells])
  · rename_i s
    split at h
    · rename_i hs
      have hs : sz = 1 := beq_iff.1 hs
      subst hs
      cases hx with
      | str _ b hb =>
        rw [lenN_eq] at h
        have hsz : b.size = s.length := by rw [← hb]; exact Array.length_toList.symm
        refine hk _ _ _ _ h (toBytes_rep s) (by simp) (by simp [Builtin.lenOf, hsz]) (fun n' w' hn _ => ?_)
        simp only [Builtin.firstCells, Sem.run_pure, Nat.mul_one]
        congr 1
        apply Array.ext'
        simp only [Array.toList_map]
        rw [← List.map_take]
        congr 1
        rw [← hb, ByteArray.data_extract]
        simp [List.extract_eq_take_drop]
    · simp at h
  · rename_i own id off len sz'
    simp only [Option.some.injEq] at h; subst h
    cases hx with
    | rsl _ _ _ _ _ cap b hb hcap ho =>
      refine impl_read c fun blk b' e' hg hα hB hkk => ?_
      rw [hb] at hα; cases hα
      split at hkk
      · rename_i l
        split at hkk
        · rename_i cs hcs
          have row := hB.row
          obtain ⟨e1, e2, e3⟩ := chunk_eq _ _ _ _ hcs
          have hget : ∀ j, j < len * sz → ∃ x y, cs[j]? = some x ∧ w.cell? ⟨b, off + j, none⟩ = some y ∧ Rep w I α x y := fun j hj => by
            have hlt : off + j < l.length := by omega
            obtain ⟨y, h1, h2⟩ := row (off + j) l[off + j] (by simp [hlt])
            rw [Nat.zero_add] at h1
            refine ⟨l[off + j], y, ?_, h1, h2⟩
            rw [e1, List.getElem?_take_of_lt hj, List.getElem?_drop]; simp [hlt]
          let f : Nat → Value := fun k => (w.cell? ⟨b, off + k, none⟩).getD undef
          refine hk _ _ ((List.range (len * sz)).map f) _ hkk ⟨by simp [e2], fun i x y h1 h2 => ?_⟩ (by simp) (by simp [Builtin.lenOf]) (fun n' w' hn hw' => ?_)
          · have hi : i < len * sz := by
              rcases Nat.lt_or_ge i (len * sz) with h' | h'
              · exact h'
              · rw [List.getElem?_eq_none (by omega)] at h1; cases h1
            obtain ⟨x', y', k1, k2, hrr⟩ := hget i hi
            rw [k1] at h1; cases h1
            simp [hi, f, k2] at h2
            subst h2; exact hrr
          · simp only [Builtin.firstCells]
            exact run_first (fun j hj => by
              obtain ⟨_, y', _, k2, _⟩ := hget j hj
              simp [f, k2]) hn hw'
        · simp at hkk
      · simp at hkk
  · simp at h

end
end Go.Proofs.Abs
