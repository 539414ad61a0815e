/- Calls. -/
import Derived.Test.YtjhggnebkfpgcaaGreatDoorE23
namespace Go.Proofs.Abs
open Go

section
variable {P : Program} {G : Glob} {w w' : World} {I I' I2 : Nat → Prop} {α α' α2 : Nat → Option Nat} {H H1 H2 : Heap} {rid nx nx' : Nat}

theorem not_owned_nil {α : Nat → Option Nat} {b : Nat} : ¬ Owned α [] b := fun ⟨_, h, _⟩ => h rfl

theorem rel_empty (hg : ∀ g l, G g = some l → closedAll l = true) (r : Rel G w I α H) : Rel G w I (fun _ => none) [] where
  live id blk h := by simp [hget] at h
  inj id id' b h := absurd rfl h
  imm := r.imm
  dom id b h := by simp at h
  glob g l h := by
    obtain ⟨h1, h2⟩ := r.glob g l h
    refine ⟨h1, fun j x hx => ?_⟩
    obtain ⟨y, h3, h4⟩ := h2 j x hx
    exact ⟨y, h3, rep_closed h4 (rep_closed.all_get (hg g l h) hx)⟩

theorem inner_new (ev : Ev w I (fun _ => none) [] w' I' α' H1) (hN : ∀ b, I2 b → I' b ∨ Owned α' H1 b) : ∀ b, I2 b → I b ∨ w.heap.size ≤ b := fun b h => by
  rcases hN b h with h | h
  · rcases ev.Inew b h with h | h | h
    · exact .inl h
    · exact .inr h
    · exact absurd h not_owned_nil
  · rcases ev.own b h with h | h
    · exact .inr h
    · exact absurd h not_owned_nil

/-- What a call in a heap of its own means for the caller. -/
theorem outer_ev (ev : Ev w I (fun _ => none) [] w' I' α' H1) (hI : ∀ b, I' b → I2 b) (hN : ∀ b, I2 b → I' b ∨ Owned α' H1 b)
    (hα : ∀ id b, α id = some b → α2 id = some b) (hO : ∀ b, Owned α2 H2 b → w.heap.size ≤ b ∨ Owned α H b) : Ev w I α H w' I2 α2 H2 where
  os := ev.os
  I_mono b h := hI b (ev.I_mono b h)
  α_mono := hα
  size := ev.size
  frame b hb _ := ev.frame b hb not_owned_nil
  shape := ev.shape
  Inew b h := (inner_new ev hN b h).imp id .inl
  own := hO

theorem outer_rel (r : Rel G w I α H) (ev : Ev w I (fun _ => none) [] w' I' α' H1) (r1 : Rel G w' I' α' H1) (hI : ∀ b, I' b → I2 b) (hN : ∀ b, I2 b → I' b ∨ Owned α' H1 b) : Rel G w' I2 α H := by
  have eo : Ev w I α H w' I2 α H := outer_ev ev hI hN (fun _ _ h => h) (fun _ h => .inr h)
  refine ⟨fun id blk h => ?_, r.inj, fun b h => ?_, fun id b h => Nat.lt_of_lt_of_le (r.dom id b h) ev.size, glob_ev r eo⟩
  · obtain ⟨b, h1, h2, h3⟩ := r.live id blk h
    have hb := r.dom id b h1
    refine ⟨b, h1, fun h4 => ?_, h3.ev r eo (ev.frame b hb not_owned_nil)⟩
    rcases inner_new ev hN b h4 with h5 | h5
    · exact h2 h5
    · omega
  · rcases hN b h with h | ⟨id, _, h⟩
    · exact r1.imm b h
    · exact r1.dom id b h

theorem frozen_own {n : Nat} : ∀ b, Frozen I' α' H1 n b → I' b ∨ Owned α' H1 b := fun _ h => h.imp id fun ⟨id, _, h2, h3⟩ => ⟨id, h2, h3⟩

theorem post_closed {v v1 : AV} {u : Value} {m : Nat} (r : Rel G w I α H) (h : BodyPost G w I (fun _ => none) [] 0 v H1 m u w') (hf : freezeA 0 H1 40 v = some v1) (hc : closedA v1 = true) : Post G w I α H rid nx v1 H nx u w' := by
  obtain ⟨⟨I', α', ev, r1, hv, _⟩, _⟩ := h
  refine ⟨⟨Frozen I' α' H1 0, α, outer_ev ev (fun _ h => .inl h) frozen_own (fun _ _ h => h) (fun _ h => .inr h), outer_rel r ev r1 (fun _ h => .inl h) frozen_own, rep_closed (freeze_sound r1 0 40 v v1 u hf hv) hc, fun _ h => .inl h⟩, Nat.le_refl _⟩

theorem post_import {v : AV} {u : Value} {i b : Nat} {l l' : List AV} (r : Rel G w I α H) (hrid : α rid = none) (ev : Ev w I (fun _ => none) [] w' I' α' H1) (r1 : Rel G w' I' α' H1) (hi : hget H1 i = some (.cells l)) (hb : α' i = some b)
    (hl : mapL (freezeA 0 (hdel H1 i) 40) l = some l') (hc : closedAll l' = true) (hv : ∀ I2, Rep w' I2 (upd α rid b) v u) : Post G w I α H rid nx v (hins H rid (.cells l')) nx u w' := by
  have hN : ∀ c, Frozen I' α' (hdel H1 i) 0 c → I' c ∨ Owned α' H1 c := fun c h => h.imp id fun ⟨id, _, h2, h3⟩ => ⟨id, fun h4 => h2 (by
    by_cases e : id = i
    · subst e; exact hget_hdel_self _ _
    · rw [hget_hdel_ne _ e]; exact h4), h3⟩
  have hI : ∀ c, I' c → Frozen I' α' (hdel H1 i) 0 c := fun _ h => .inl h
  have hα : ∀ id c, α id = some c → upd α rid b id = some c := fun id c h => by
    rw [upd_ne]; exact h
    intro e; subst e; rw [hrid] at h; cases h
  have hnew : w.heap.size ≤ b := by
    rcases ev.own b ⟨i, by rw [hi]; simp, hb⟩ with h | h
    · exact h
    · exact absurd h not_owned_nil
  have hO : ∀ c, Owned (upd α rid b) (hins H rid (.cells l')) c → w.heap.size ≤ c ∨ Owned α H c := fun c ⟨id, h1, h2⟩ => by
    by_cases e : id = rid
    · subst e; rw [upd_self] at h2; cases h2; exact .inl hnew
    · rw [upd_ne _ _ e] at h2
      rw [hget_hins_ne _ _ e] at h1
      exact .inr ⟨id, h1, h2⟩
  have eo : Ev w I α H w' (Frozen I' α' (hdel H1 i) 0) (upd α rid b) (hins H rid (.cells l')) := outer_ev ev hI hN hα hO
  have ro := outer_rel r ev r1 hI hN
  refine ⟨⟨_, _, eo, ⟨fun id blk h => ?_, fun id id' c h1 h2 h3 h4 => ?_, ro.imm, fun id c h => ?_, glob_ev r eo⟩, hv _, fun id h => ?_⟩, Nat.le_refl _⟩
  · by_cases e : id = rid
    · subst e
      rw [hget_hins_self] at h; cases h
      obtain ⟨b', e1, e2, e3⟩ := r1.live i _ hi
      rw [hb] at e1; cases e1
      refine ⟨b, upd_self _ _ _, ?_, ?_⟩
      · rintro (h | ⟨k, _, h2, h3⟩)
        · exact e2 h
        · by_cases ek : k = i
          · subst ek; exact h2 (hget_hdel_self _ _)
          · rw [hget_hdel_ne _ ek] at h2
            exact ek (r1.inj k i b h2 (by rw [hi]; simp) h3 hb)
      · obtain ⟨c, ty, f1, f2, f3⟩ := e3
        have hlen := (mapL_get hl).1
        exact ⟨c, ty, f1, by rw [hlen]; exact f2, by
          rw [hlen]
          exact repl_closed ((freeze_sound (rel_del r1 i) 0 40).list hl f3) hc⟩
    · rw [hget_hins_ne _ _ e] at h
      obtain ⟨c, h1, h2, h3⟩ := r.live id blk h
      obtain ⟨c', h4, h5, _⟩ := ro.live id blk h
      rw [h1] at h4; cases h4
      exact ⟨c, by rw [upd_ne _ _ e]; exact h1, h5, h3.ev r eo (ev.frame c (r.dom id c h1) not_owned_nil)⟩
  · by_cases e : id = rid
    · subst e
      rw [upd_self] at h3; cases h3
      by_cases e' : id' = id
      · exact e'.symm
      · rw [upd_ne _ _ e'] at h4
        have := r.dom id' b h4
        omega
    · rw [upd_ne _ _ e] at h3
      by_cases e' : id' = rid
      · subst e'
        rw [upd_self] at h4; cases h4
        have := r.dom id b h3
        omega
      · rw [upd_ne _ _ e'] at h4
        rw [hget_hins_ne _ _ e] at h1
        rw [hget_hins_ne _ _ e'] at h2
        exact r.inj id id' c h1 h2 h3 h4
  · by_cases e : id = rid
    · subst e; rw [upd_self] at h; cases h; exact r1.dom i b hb
    · rw [upd_ne _ _ e] at h; exact ro.dom id c h
  · by_cases e : id = rid
    · exact .inr (.inl e)
    · rw [upd_ne _ _ e] at h; exact .inl h

theorem post_shared {v v1 : AV} {u : Value} (h : BodyPost G w I α H nx v H1 nx' u w') (hf : freezeA nx H1 40 v = some v1) : Post G w I α H rid nx v1 (hbelow nx H1) nx' u w' := by
  obtain ⟨⟨I', α', ev, r1, hv, hn⟩, hle⟩ := h
  have hb : ∀ {id}, hget (hbelow nx H1) id ≠ none → id < nx ∧ hget H1 id ≠ none := fun {id} h => by
    rw [hget_hbelow] at h
    split at h
    · exact ⟨by assumption, h⟩
    · exact absurd rfl h
  have hO : ∀ b, Owned α' (hbelow nx H1) b → Owned α' H1 b := fun b ⟨id, h1, h2⟩ => ⟨id, (hb h1).2, h2⟩
  have e2 : Ev w' I' α' H1 w' (Frozen I' α' H1 nx) α' (hbelow nx H1) := ⟨.refl _, fun _ h => .inl h, fun _ _ h => h, Nat.le_refl _, fun _ _ _ => rfl, fun _ _ => rfl, fun b h => (frozen_own b h).imp id .inr, fun b h => .inr (hO b h)⟩
  refine ⟨⟨_, _, ev.trans e2, ⟨fun id blk h => ?_, fun id id' b h1 h2 => r1.inj id id' b (hb h1).2 (hb h2).2, fun b h => ?_, r1.dom, glob_ev r1 e2⟩, freeze_sound r1 nx 40 v v1 u hf hv, fun id h => (hn id h).imp (fun h => h) .inr⟩, hle⟩
  · rw [hget_hbelow] at h
    split at h
    · rename_i hlt
      obtain ⟨b, h1, h2, h3⟩ := r1.live id blk h
      refine ⟨b, h1, ?_, h3.ev r1 e2 rfl⟩
      rintro (h4 | ⟨k, h4, h5, h6⟩)
      · exact h2 h4
      · have := r1.inj k id b h5 (by rw [h]; simp) h6 h1
        omega
    · cases h
  · rcases frozen_own b h with h | ⟨id, _, h⟩
    · exact r1.imm b h
    · exact r1.dom id b h

theorem post_kept {v : AV} {u : Value} (h : BodyPost G w I α H nx v H1 nx' u w') : Post G w I α H rid nx v H1 nx' u w' := by
  obtain ⟨⟨I', α', ev, r1, hv, hn⟩, hle⟩ := h
  exact ⟨⟨I', α', ev, r1, hv, fun id h => (hn id h).imp (fun h => h) .inr⟩, hle⟩

theorem import_sound {v v1 : AV} {u : Value} {m : Nat} {h2 : Heap} {ft : Foot} (r : Rel G w I α H) (hrid : α rid = none) (h : BodyPost G w I (fun _ => none) [] 0 v H1 m u w')
    (hi : importA H1 v rid H nx = some (v1, h2, nx', ft)) : Post G w I α H rid nx v1 h2 nx' u w' := by
  unfold importA at hi
  split at hi
  · rename_i i len sz
    split at hi
    · rename_i l hl
      split at hi
      · rename_i l' hl'
        split at hi
        · rename_i hc
          simp only [Option.some.injEq, Prod.mk.injEq] at hi
          obtain ⟨rfl, rfl, rfl, rfl⟩ := hi
          obtain ⟨⟨I', α', ev, r1, hv, _⟩, _⟩ := h
          cases hv with
          | rsl _ _ _ _ _ cap b hb hcap ho => exact post_import r hrid ev r1 hl hb hl' hc fun I2 => .rsl _ _ _ _ _ cap b (upd_self _ _ _) hcap ho
        · simp at hi
      · simp at hi
    · simp at hi
  · rename_i i off
    split at hi
    · rename_i l hl
      split at hi
      · rename_i l' hl'
        split at hi
        · rename_i hc
          simp only [Option.some.injEq, Prod.mk.injEq] at hi
          obtain ⟨rfl, rfl, rfl, rfl⟩ := hi
          obtain ⟨⟨I', α', ev, r1, hv, _⟩, _⟩ := h
          cases hv with
          | ptr _ _ b hb => exact post_import r hrid ev r1 hl hb hl' hc fun I2 => .ptr _ _ b (upd_self _ _ _)
        · simp at hi
      · simp at hi
    · simp at hi
  · split at hi
    · rename_i v' hf
      split at hi
      · rename_i hc
        simp only [Option.some.injEq, Prod.mk.injEq] at hi
        obtain ⟨rfl, rfl, rfl, rfl⟩ := hi
        exact post_closed r h hf hc
      · simp at hi
    · simp at hi

theorem import_loc {v v1 : AV} {nx m : Nat} {ft : Foot} {h2 : Heap} (hi : importA H1 v rid H nx = some (v1, h2, m, ft)) : Loc (importA H1 v rid) H nx v1 h2 m ft := by
  intro _
  unfold importA at hi
  split at hi
  · split at hi
    · rename_i l hl
      split at hi
      · rename_i l' hl'
        split at hi
        · rename_i hc
          simp only [Option.some.injEq, Prod.mk.injEq] at hi
          obtain ⟨rfl, rfl, rfl, rfl⟩ := hi
          exact ⟨rfl, [(rid, some (.cells l'))], rfl, by simp, fun h3 nx3 _ => by simp only [importA, hl, hl', hc]; rfl⟩
        · simp at hi
      · simp at hi
    · simp at hi
  · split at hi
    · rename_i l hl
      split at hi
      · rename_i l' hl'
        split at hi
        · rename_i hc
          simp only [Option.some.injEq, Prod.mk.injEq] at hi
          obtain ⟨rfl, rfl, rfl, rfl⟩ := hi
          exact ⟨rfl, [(rid, some (.cells l'))], rfl, by simp, fun h3 nx3 _ => by simp only [importA, hl, hl', hc]; rfl⟩
        · simp at hi
      · simp at hi
    · simp at hi
  · rename_i hn1 hn2
    split at hi
    · rename_i v' hf
      split at hi
      · rename_i hc
        simp only [Option.some.injEq, Prod.mk.injEq] at hi
        obtain ⟨rfl, rfl, rfl, rfl⟩ := hi
        refine ⟨rfl, [], rfl, by simp, fun h3 nx3 _ => ?_⟩
        unfold importA
        split
        · exact absurd rfl (hn1 _ _ _)
        · exact absurd rfl (hn2 _ _)
        · simp only [hf, hc]; rfl
      · simp at hi
    · simp at hi

theorem calls_sound {O : Opts} (hm : P.follows .mixedOrders = true) (hsum : ∀ f args, O.summ f args = none) (hg : ∀ g l, O.glob g = some l → closedAll l = true) : ∀ n, CallOk P O.glob (callN P O n) ∧ CallLoc (callN P O n)
  | 0 => ⟨fun f args rid H nx v H' nx' ft h => by simp [callN] at h, fun f args id h nx v h' nx' ft hc => by simp [callN] at hc⟩
  | n + 1 => by
    obtain ⟨ih1, ih2⟩ := calls_sound hm hsum hg n
    constructor
    · intro f args rid H nx v H' nx' ft h w I α vs r ha hrid hlt hfr
      have own : ∀ {v0 H1 m}, closedAll args = true → runBody P O (callN P O n) f args [] 0 = some (v0, H1, m) → _ := fun {v0 H1 m} hc hrun =>
        body_sound (w := w) (I := I) (α := fun _ => none) hm ih1 ih2 hrun (rel_empty hg r) (repl_closed ha hc) (fun _ _ => rfl)
      have shared : ∀ {v0 H1 m}, runBody P O (callN P O n) f args H nx = some (v0, H1, m) → _ := fun {v0 H1 m} hrun =>
        body_sound (w := w) (I := I) (α := α) hm ih1 ih2 hrun r ha hfr
      simp only [callN] at h
      split at h
      · rename_i hhow hcl
        rw [hsum] at h
        simp only at h
        split at h
        · rename_i v0 H1 m hrun
          split at h
          · rename_i v1 hfz
            split at h
            · rename_i hc
              simp only [Option.some.injEq, Prod.mk.injEq] at h
              obtain ⟨rfl, rfl, rfl, rfl⟩ := h
              obtain ⟨e1, e2⟩ := own hcl hrun
              rw [e1]
              refine Calls.mono e2 ?_
              rintro e w' ⟨u, rfl, hp⟩
              exact ⟨u, rfl, post_closed r hp hfz hc⟩
            · simp at h
          · simp at h
        · simp at h
      · rename_i hhow hcl
        split at h
        · rename_i v0 H1 m hrun
          obtain ⟨e1, e2⟩ := own hcl hrun
          rw [e1]
          refine Calls.mono e2 ?_
          rintro e w' ⟨u, rfl, hp⟩
          exact ⟨u, rfl, import_sound r hrid hp h⟩
        · simp at h
      · split at h
        · rename_i v0 H1 m hrun
          split at h
          · rename_i v1 hfz
            simp only [Option.some.injEq, Prod.mk.injEq] at h
            obtain ⟨rfl, rfl, rfl, rfl⟩ := h
            obtain ⟨e1, e2⟩ := shared hrun
            rw [e1]
            refine Calls.mono e2 ?_
            rintro e w' ⟨u, rfl, hp⟩
            exact ⟨u, rfl, post_shared hp hfz⟩
          · simp at h
        · simp at h
      · split at h
        · rename_i v0 H1 m hrun
          simp only [Option.some.injEq, Prod.mk.injEq] at h
          obtain ⟨rfl, rfl, rfl, rfl⟩ := h
          obtain ⟨e1, e2⟩ := shared hrun
          rw [e1]
          refine Calls.mono e2 ?_
          rintro e w' ⟨u, rfl, hp⟩
          exact ⟨u, rfl, post_kept hp⟩
        · simp at h
    · intro f args id h nx v h' nx' ft hc
      simp only [callN] at hc
      split at hc
      · rename_i hhow hcl
        rw [hsum] at hc
        simp only at hc
        split at hc
        · rename_i v0 H1 m hrun
          split at hc
          · rename_i v1 hfz
            split at hc
            · rename_i hcc
              simp only [Option.some.injEq, Prod.mk.injEq] at hc
              obtain ⟨rfl, rfl, rfl, rfl⟩ := hc
              intro _
              exact ⟨rfl, [], rfl, by simp, fun h2 nx2 _ => by simp only [callN, hhow, hcl, hsum, hrun, hfz, hcc]; rfl⟩
            · simp at hc
          · simp at hc
        · simp at hc
      · rename_i hhow hcl
        split at hc
        · rename_i v0 H1 m hrun
          intro hall
          obtain ⟨e1, md, e2, e3, e4⟩ := import_loc hc hall
          exact ⟨e1, md, e2, e3, fun h2 nx2 hk => by simp only [callN, hhow, hcl, hrun]; exact e4 h2 nx2 hk⟩
        · simp at hc
      · split at hc
        · split at hc
          · simp only [Option.some.injEq, Prod.mk.injEq] at hc
            obtain ⟨_, _, _, rfl⟩ := hc
            intro hall; simp at hall
          · simp at hc
        · simp at hc
      · split at hc
        · simp only [Option.some.injEq, Prod.mk.injEq] at hc
          obtain ⟨_, _, _, rfl⟩ := hc
          intro hall; simp at hall
        · simp at hc

end
end Go.Proofs.Abs
