/- append. -/
import Derived.Test.YtnlllfokomenfaaGreatDoorE8
namespace Go.Proofs.Abs
open Go

section
variable {P : Program} {G : Glob} {call : Caller} {w : World} {I : Nat → Prop} {α : Nat → Option Nat} {H : Heap} {rid nx : Nat}

theorem Ctx.del (c : Ctx P G call w I α H rid nx) (id : Nat) : Ctx P G call w I α (hdel H id) rid nx := ⟨rel_del c.rel id, c.hrid, c.lt, c.fresh, c.call⟩

theorem Post.of_del {id : Nat} {v : AV} {H' : Heap} {nx' : Nat} {v' : Value} {w' : World} (h : Post G w I α (hdel H id) rid nx v H' nx' v' w') : Post G w I α H rid nx v H' nx' v' w' := by
  obtain ⟨⟨I', α', h1, h2, h3, h4⟩, h5⟩ := h
  exact ⟨⟨I', α', (ev_del id).trans h1, h2, h3, h4⟩, h5⟩

/-- An owned block under a new number. -/
theorem post_rename {w' : World} {id b : Nat} {blk blk' : Blk} {v : AV} {v' : Value} (c : Ctx P G call w I α H rid nx) (hg : hget H id = some blk) (hα : α id = some b)
    (hs : w'.heap.size = w.heap.size) (ho : ∀ k, k ≠ b → w'.heap[k]? = w.heap[k]?) (hsh : w'.shape? b = w.shape? b)
    (hB : Rel G w' I α (hdel H id) → Ev w I α H w' I α (hdel H id) → BRel w' I α b blk') (hv : ∀ α', α' rid = some b → Rep w' I α' v v') (hos : SameOs w w' := by first | assumption | exact ⟨rfl, rfl, rfl⟩) :
    Post G w I α H rid nx v (hins (hdel H id) rid blk') nx v' w' := by
  obtain ⟨_, _, reld, evd⟩ := upd_core c hg hα hs ho hsh hB
  have hB' := hB reld evd
  have hm : ∀ i k, α i = some k → upd α rid b i = some k := fun i k h => by
    rw [upd_ne]; exact h
    intro e; subst e; rw [c.hrid] at h; cases h
  have hrid : hget H rid = none := by
    cases hh : hget H rid with
    | none => rfl
    | some blk => obtain ⟨k, h1, _⟩ := c.rel.live rid blk hh; rw [c.hrid] at h1; cases h1
  have hne : rid ≠ id := fun e => by subst e; rw [hrid] at hg; cases hg
  have hbd : b < w.heap.size := c.rel.dom id b hα
  have hnI : ¬ I b := by
    obtain ⟨b', h1, h2, _⟩ := c.rel.live id blk hg
    rw [hα] at h1; cases h1; exact h2
  have ridd : hget (hdel H id) rid = none := by rw [hget_hdel_ne _ hne]; exact hrid
  have ev : Ev w I α H w' I (upd α rid b) (hins (hdel H id) rid blk') :=
    ⟨evd.os, evd.I_mono, fun i k h => hm i k h, evd.size, evd.frame, evd.shape, evd.Inew, fun k hk => by
      obtain ⟨i, h1, h2⟩ := hk
      by_cases e : i = rid
      · subst e; rw [upd_self] at h2; cases h2; exact .inr ⟨id, by rw [hg]; simp, hα⟩
      · rw [hget_hins_ne _ _ e] at h1; rw [upd_ne _ _ e] at h2; exact evd.own k ⟨i, h1, h2⟩⟩
  have mono : ∀ {a : AV} {u : Value}, Rep w' I α a u → Rep w' I (upd α rid b) a u := fun h => h.mono (fun _ h => h) hm (fun _ _ _ => rfl) (fun _ _ _ => rfl)
  have monoB : ∀ {k : Nat} {bk : Blk}, BRel w' I α k bk → BRel w' I (upd α rid b) k bk := fun {k bk} h => by
    cases bk with
    | cells l => obtain ⟨cc, e, h1, h2, h3⟩ := h; exact ⟨cc, e, h1, h2, h3.1, fun i x y e1 e2 => mono (h3.2 i x y e1 e2)⟩
    | siter s p => exact h
    | mapb cl st es => obtain ⟨en, h1, h2, h4, h3⟩ := h; exact ⟨en, h1, h2, h4, fun i x y e1 e2 => ⟨mono (h3 i x y e1 e2).1, mono (h3 i x y e1 e2).2⟩⟩
    | miter m since seen last => obtain ⟨mb, h1, h2⟩ := h; exact ⟨mb, hm _ _ h1, h2⟩
  have other : ∀ i k, hget (hdel H id) i ≠ none → α i = some k → k ≠ b := fun i k h1 h2 e => by
    have hi : i ≠ id := fun e' => by subst e'; rw [hget_hdel_self] at h1; exact h1 rfl
    rw [hget_hdel_ne _ hi] at h1
    exact hi (c.rel.inj i id b h1 (by rw [hg]; simp) (e ▸ h2) hα)
  have rel : Rel G w' I (upd α rid b) (hins (hdel H id) rid blk') :=
    { live := fun i bk hi => by
        by_cases e : i = rid
        · subst e; rw [hget_hins_self] at hi; cases hi; exact ⟨b, upd_self _ _ _, hnI, monoB hB'⟩
        · rw [hget_hins_ne _ _ e] at hi
          obtain ⟨k, h1, h2, h3⟩ := reld.live i bk hi
          exact ⟨k, hm _ _ h1, h2, monoB h3⟩
      inj := fun i j k h1 h2 h3 h4 => by
        by_cases e : i = rid
        · subst e; rw [upd_self] at h3; cases h3
          by_cases e' : j = i
          · exact e'.symm
          · rw [hget_hins_ne _ _ e'] at h2; rw [upd_ne _ _ e'] at h4
            exact absurd rfl (other j _ h2 h4)
        · by_cases e' : j = rid
          · subst e'; rw [upd_self] at h4; cases h4
            rw [hget_hins_ne _ _ e] at h1; rw [upd_ne _ _ e] at h3
            exact absurd rfl (other i _ h1 h3)
          · rw [hget_hins_ne _ _ e] at h1; rw [hget_hins_ne _ _ e'] at h2
            rw [upd_ne _ _ e] at h3; rw [upd_ne _ _ e'] at h4
            exact reld.inj i j k h1 h2 h3 h4
      imm := reld.imm
      dom := fun i k h => by
        by_cases e : i = rid
        · subst e; rw [upd_self] at h; cases h; rw [hs]; exact hbd
        · rw [upd_ne _ _ e] at h; exact reld.dom i k h
      glob := fun g l hg' => by
        obtain ⟨h1, h2⟩ := reld.glob g l hg'
        exact ⟨h1, fun j x hx => let ⟨y, e, hy⟩ := h2 j x hx; ⟨y, e, mono hy⟩⟩ }
  refine ⟨⟨I, upd α rid b, ev, rel, hv _ (upd_self _ _ _), fun i hi => ?_⟩, Nat.le_refl _⟩
  by_cases e : i = rid
  · exact .inr (.inl e)
  · rw [upd_ne _ _ e] at hi; exact .inl hi

/-! ### The operation's run -/

section
variable {argTypes : Array TypeId} {ty st xt e : TypeId} {xd : TypeDesc} {i : TypeInfo} {x' : Value} {n : Nat} {news : List Value}

theorem run_append_in (h0 : argTypes[0]? = some st) (h1 : argTypes[1]? = some xt) (hst : P.underlying st = some (.slice e)) (hxt : P.underlying xt = some xd)
    (hni : (∃ e', xd = .slice e') ∨ xd = .string) (hi : P.info? e = some i) (hlen : (Builtin.lenOf x').run P w = .ok n w) (hf : (Builtin.firstCells i.size n x').run P w = .ok news.toArray w)
    {g sLen sCap : Nat} {cur : Array Value} {ee : TypeId} (hroom : sLen + n ≤ sCap) (hg : w.heap[g]? = some (.cells cur ee (0, 0))) (hfit : sLen * i.size + news.length ≤ cur.size) (hone : ∀ v ∈ news, v.oneCell' = true) :
    (Builtin.append_ argTypes ty #[.slice (some ⟨g, 0, none⟩) sLen sCap, x']).run P w =
      .ok (.slice (some ⟨g, 0, none⟩) (sLen + n) sCap) (w.setRow g (cur.toList.take (sLen * i.size) ++ news ++ cur.toList.drop (sLen * i.size + news.length)).toArray) := by
  have hst' := run_storeCells_at P g (sLen * i.size) ee news 0 cur w hg (by simpa using hfit) hone
  simp only [Nat.add_zero] at hst'
  rcases hni with ⟨e', rfl⟩ | rfl <;> simp [Builtin.append_, h0, h1, run_underlying' hst, run_underlying' hxt, sizeOf, typeInfo, hi, hlen, hroom, hf, Addr.add_lit, hst']

theorem run_append_none (h0 : argTypes[0]? = some st) (h1 : argTypes[1]? = some xt) (hst : P.underlying st = some (.slice e)) (hxt : P.underlying xt = some xd)
    (hni : (∃ e', xd = .slice e') ∨ xd = .string) (hi : P.info? e = some i) (hlen : (Builtin.lenOf x').run P w = .ok 0 w) (hf : (Builtin.firstCells i.size 0 x').run P w = .ok #[] w)
    {a : Option Addr} {sLen sCap : Nat} (hroom : sLen ≤ sCap) :
    (Builtin.append_ argTypes ty #[.slice a sLen sCap, x']).run P w = .ok (.slice a sLen sCap) w := by
  cases a <;> rcases hni with ⟨e', rfl⟩ | rfl <;> simp [Builtin.append_, h0, h1, run_underlying' hst, run_underlying' hxt, sizeOf, typeInfo, hi, hlen, hroom, hf, storeCells]

theorem run_append_out (h0 : argTypes[0]? = some st) (h1 : argTypes[1]? = some xt) (hst : P.underlying st = some (.slice e)) (hxt : P.underlying xt = some xd)
    (hni : (∃ e', xd = .slice e') ∨ xd = .string) (hi : P.info? e = some i) (hb0 : i.bytes ≠ 0) {z : Value} (hz : i.zero = some z) (hlen : (Builtin.lenOf x').run P w = .ok n w)
    (hf : ∀ w', w'.heap = w.heap → (Builtin.firstCells i.size n x').run P w' = .ok news.toArray w')
    {a : Option Addr} {sLen sCap : Nat} {olds : List Value} (hold : ∀ w', w'.heap = w.heap → (Builtin.firstCells i.size sLen (.slice a sLen sCap)).run P w' = .ok olds.toArray w')
    (hout : sCap < sLen + n) (hby : (sLen + n) * i.bytes ≤ 140737488355328) :
    (Builtin.append_ argTypes ty #[.slice a sLen sCap, x']).run P w =
      .ok (.slice (some ⟨w.heap.size, 0, none⟩) (sLen + n) (grownCap w (sLen + n) sCap e))
        (w.drew.alloc (.cells (olds.toArray ++ news.toArray ++ Builtin.zeroCells z.cells (grownCap w (sLen + n) sCap e - (sLen + n))) e)) := by
  have hn : ¬ (sLen + n ≤ sCap) := by omega
  have hfit := growslice_fits hout hby
  have hfit' : ¬ (281474976710656 < Builtin.nextslicecap (sLen + n) sCap * i.bytes) := by omega
  have hf' := hf w.drew rfl
  have ho' := hold w.drew rfl
  rcases hni with ⟨e', rfl⟩ | rfl <;>
    simp [Builtin.append_, h0, h1, run_underlying' hst, run_underlying' hxt, sizeOf, typeInfo, hi, hlen, hn, hb0, hfit', zeroValue, hz, hf', ho', newRow, grownCap, Question.forced] <;>
    (congr 2; apply Array.ext'; simp)
end

theorem zeroCells_size (z : Array Value) (n : Nat) : (Builtin.zeroCells z n).size = n * z.size := by simp [Builtin.zeroCells]


theorem RepL.one {cs : List AV} {vs : List Value} (h : RepL w I α cs vs) (ho : allOne cs = true) : ∀ v ∈ vs, v.oneCell' = true := fun u hu => by
  obtain ⟨i, hi⟩ := List.getElem?_of_mem hu
  have hi2 : i < cs.length := by
    rw [h.1]
    rcases Nat.lt_or_ge i vs.length with h' | h'
    · exact h'
    · rw [List.getElem?_eq_none h'] at hi; cases hi
  exact (h.2 i cs[i] u (by simp [hi2]) hi).one (allOne_mem ho _ (List.getElem_mem hi2))

/-- A slice in a new row. -/
theorem post_newRow {olds news : List Value} {cs : List AV} {e : TypeId} {z : Array Value} {n cap sz : Nat} {w' : World} (c : Ctx P G call w I α H rid nx)
    (hw : w'.heap = w.heap.push (.cells (olds.toArray ++ news.toArray ++ Builtin.zeroCells z (cap - n)) e)) (hcs : RepL w I α cs (olds ++ news)) (hn : (olds ++ news).length = n * sz) (hz : z.size = sz) (hcap : n ≤ cap) (hos : SameOs w w' := by first | assumption | exact ⟨rfl, rfl, rfl⟩) :
    Post G w I α H rid nx (.rsl true rid 0 n sz) (hins H rid (.cells cs)) nx (.slice (some ⟨w.heap.size, 0, none⟩) n cap) w' := by
  have hsz : (olds.toArray ++ news.toArray ++ Builtin.zeroCells z (cap - n)).size = cap * sz := by
    simp only [Array.size_append, List.size_toArray, zeroCells_size, hz]
    rw [← List.length_append, hn, ← Nat.add_mul]; congr 1; omega
  refine post_new c hw (fun α' hα rel => ?_) (fun α' hα => .rsl true rid 0 n sz cap _ hα hcap (fun _ => ⟨e, cap * sz, ?_, by omega⟩))
  · refine ⟨_, e, heap_push_new hw, ?_, ?_⟩
    · rw [hcs.1, hn, hsz]; exact Nat.mul_le_mul_right _ hcap
    · have ev : Ev w I α H w' I α H := ev_push hw I (fun _ h => h) (fun _ h => .inl h)
      have := hcs.ev c.rel ev
      have e1 : ((olds.toArray ++ news.toArray ++ Builtin.zeroCells z (cap - n)).toList.take cs.length) = olds ++ news := by
        rw [hcs.1]
        simp only [Array.toList_append, List.take_left']
      rw [e1]
      exact ⟨this.1, fun i a b h1 h2 => (this.2 i a b h1 h2).mono (fun _ h => h) hα (fun _ _ _ => rfl) (fun _ _ _ => rfl)⟩
  · simp only [World.shape?, heap_push_new hw, hsz]

theorem zeroA_cells {e : TypeId} {z : AV} {i : TypeInfo} (hi : P.info? e = some i) (hz : zeroA P e = some z) : ∃ v, i.zero = some v ∧ v.cells.size = z.cells.length ∧ Rep w I α z v := by
  obtain ⟨i', v, h1, h2, h3⟩ := zeroA_info hz
  rw [hi] at h1; cases h1
  refine ⟨v, h2, ?_, rep_ofValue h3⟩
  have : RepL w I α z.cells v.cells.toList := (rep_ofValue h3).cells
  rw [this.1]; simp

end
end Go.Proofs.Abs
