/- Calls. -/
import Derived.Test.YtnlllfokomenfaaGreatDoorE23
import Derived.Laws.Externs
import Derived.Lib.Bytealg
import Derived.KernelRfl
namespace Go.Proofs.Abs
open Go

section
variable {P : Program} {G : Glob} {w w' : World} {I I' I2 : Nat → Prop} {α α' α2 : Nat → Option Nat} {H H1 H2 : Heap} {rid nx nx' : Nat}

theorem not_owned_nil {α : Nat → Option Nat} {b : Nat} : ¬ Owned α [] b := fun ⟨_, h, _⟩ => h rfl

theorem rel_empty (hg : ∀ g l, G g = some l → closedAll l = true) (r : Rel G w I α H) : Rel G w I (fun _ => none) [] where
  live id blk h := by simp [hget] at h
  inj id id' b h := absurd rfl h
  imm := r.imm
  dom id b h := by simp at h
  glob g l h := by
    obtain ⟨h1, h2⟩ := r.glob g l h
    refine ⟨h1, fun j x hx => ?_⟩
    obtain ⟨y, h3, h4⟩ := h2 j x hx
    exact ⟨y, h3, rep_closed h4 (rep_closed.all_get (hg g l h) hx)⟩

theorem inner_new (ev : Ev w I (fun _ => none) [] w' I' α' H1) (hN : ∀ b, I2 b → I' b ∨ Owned α' H1 b) : ∀ b, I2 b → I b ∨ w.heap.size ≤ b := fun b h => by
  rcases hN b h with h | h
  · rcases ev.Inew b h with h | h | h
    · exact .inl h
    · exact .inr h
    · exact absurd h not_owned_nil
  · rcases ev.own b h with h | h
    · exact .inr h
    · exact absurd h not_owned_nil

/-- What a call in a heap of its own means for the caller. -/
theorem outer_ev (ev : Ev w I (fun _ => none) [] w' I' α' H1) (hI : ∀ b, I' b → I2 b) (hN : ∀ b, I2 b → I' b ∨ Owned α' H1 b)
    (hα : ∀ id b, α id = some b → α2 id = some b) (hO : ∀ b, Owned α2 H2 b → w.heap.size ≤ b ∨ Owned α H b) : Ev w I α H w' I2 α2 H2 where
  os := ev.os
  I_mono b h := hI b (ev.I_mono b h)
  α_mono := hα
  size := ev.size
  frame b hb _ := ev.frame b hb not_owned_nil
  shape := ev.shape
  Inew b h := (inner_new ev hN b h).imp id .inl
  own := hO

theorem outer_rel (r : Rel G w I α H) (ev : Ev w I (fun _ => none) [] w' I' α' H1) (r1 : Rel G w' I' α' H1) (hI : ∀ b, I' b → I2 b) (hN : ∀ b, I2 b → I' b ∨ Owned α' H1 b) : Rel G w' I2 α H := by
  have eo : Ev w I α H w' I2 α H := outer_ev ev hI hN (fun _ _ h => h) (fun _ h => .inr h)
  refine ⟨fun id blk h => ?_, r.inj, fun b h => ?_, fun id b h => Nat.lt_of_lt_of_le (r.dom id b h) ev.size, glob_ev r eo⟩
  · obtain ⟨b, h1, h2, h3⟩ := r.live id blk h
    have hb := r.dom id b h1
    refine ⟨b, h1, fun h4 => ?_, h3.ev r eo (ev.frame b hb not_owned_nil)⟩
    rcases inner_new ev hN b h4 with h5 | h5
    · exact h2 h5
    · omega
  · rcases hN b h with h | ⟨id, _, h⟩
    · exact r1.imm b h
    · exact r1.dom id b h

theorem frozen_own {n : Nat} : ∀ b, Frozen I' α' H1 n b → I' b ∨ Owned α' H1 b := fun _ h => h.imp id fun ⟨id, _, h2, h3⟩ => ⟨id, h2, h3⟩

theorem post_closed {v v1 : AV} {u : Value} {m d : Nat} (r : Rel G w I α H) (h : BodyPost G w I (fun _ => none) [] 0 v H1 m u w') (hf : freezeA 0 H1 d v = some v1) (hc : closedA v1 = true) : Post G w I α H rid nx v1 H nx u w' := by
  obtain ⟨⟨I', α', ev, r1, hv, _⟩, _⟩ := h
  refine ⟨⟨Frozen I' α' H1 0, α, outer_ev ev (fun _ h => .inl h) frozen_own (fun _ _ h => h) (fun _ h => .inr h), outer_rel r ev r1 (fun _ h => .inl h) frozen_own, rep_closed (freeze_sound r1 0 d v v1 u hf hv) hc, fun _ h => .inl h⟩, Nat.le_refl _⟩

theorem post_import {v : AV} {u : Value} {i b : Nat} {l l' : List AV} (r : Rel G w I α H) (hrid : α rid = none) (ev : Ev w I (fun _ => none) [] w' I' α' H1) (r1 : Rel G w' I' α' H1) (hi : hget H1 i = some (.cells l)) (hb : α' i = some b)
    (hl : mapL (freezeA 0 (hdel H1 i) 40) l = some l') (hc : closedAll l' = true) (hv : ∀ I2, Rep w' I2 (upd α rid b) v u) : Post G w I α H rid nx v (hins H rid (.cells l')) nx u w' := by
  have hN : ∀ c, Frozen I' α' (hdel H1 i) 0 c → I' c ∨ Owned α' H1 c := fun c h => h.imp id fun ⟨id, _, h2, h3⟩ => ⟨id, fun h4 => h2 (by
    by_cases e : id = i
    · subst e; exact hget_hdel_self _ _
    · rw [hget_hdel_ne _ e]; exact h4), h3⟩
  have hI : ∀ c, I' c → Frozen I' α' (hdel H1 i) 0 c := fun _ h => .inl h
  have hα : ∀ id c, α id = some c → upd α rid b id = some c := fun id c h => by
    rw [upd_ne]; exact h
    intro e; subst e; rw [hrid] at h; cases h
  have hnew : w.heap.size ≤ b := by
    rcases ev.own b ⟨i, by rw [hi]; simp, hb⟩ with h | h
    · exact h
    · exact absurd h not_owned_nil
  have hO : ∀ c, Owned (upd α rid b) (hins H rid (.cells l')) c → w.heap.size ≤ c ∨ Owned α H c := fun c ⟨id, h1, h2⟩ => by
    by_cases e : id = rid
    · subst e; rw [upd_self] at h2; cases h2; exact .inl hnew
    · rw [upd_ne _ _ e] at h2
      rw [hget_hins_ne _ _ e] at h1
      exact .inr ⟨id, h1, h2⟩
  have eo : Ev w I α H w' (Frozen I' α' (hdel H1 i) 0) (upd α rid b) (hins H rid (.cells l')) := outer_ev ev hI hN hα hO
  have ro := outer_rel r ev r1 hI hN
  refine ⟨⟨_, _, eo, ⟨fun id blk h => ?_, fun id id' c h1 h2 h3 h4 => ?_, ro.imm, fun id c h => ?_, glob_ev r eo⟩, hv _, fun id h => ?_⟩, Nat.le_refl _⟩
  · by_cases e : id = rid
    · subst e
      rw [hget_hins_self] at h; cases h
      obtain ⟨b', e1, e2, e3⟩ := r1.live i _ hi
      rw [hb] at e1; cases e1
      refine ⟨b, upd_self _ _ _, ?_, ?_⟩
      · rintro (h | ⟨k, _, h2, h3⟩)
        · exact e2 h
        · by_cases ek : k = i
          · subst ek; exact h2 (hget_hdel_self _ _)
          · rw [hget_hdel_ne _ ek] at h2
            exact ek (r1.inj k i b h2 (by rw [hi]; simp) h3 hb)
      · obtain ⟨c, ty, f1, f2, f3⟩ := e3
        have hlen := (mapL_get hl).1
        exact ⟨c, ty, f1, by rw [hlen]; exact f2, by
          rw [hlen]
          exact repl_closed ((freeze_sound (rel_del r1 i) 0 40).list hl f3) hc⟩
    · rw [hget_hins_ne _ _ e] at h
      obtain ⟨c, h1, h2, h3⟩ := r.live id blk h
      obtain ⟨c', h4, h5, _⟩ := ro.live id blk h
      rw [h1] at h4; cases h4
      exact ⟨c, by rw [upd_ne _ _ e]; exact h1, h5, h3.ev r eo (ev.frame c (r.dom id c h1) not_owned_nil)⟩
  · by_cases e : id = rid
    · subst e
      rw [upd_self] at h3; cases h3
      by_cases e' : id' = id
      · exact e'.symm
      · rw [upd_ne _ _ e'] at h4
        have := r.dom id' b h4
        omega
    · rw [upd_ne _ _ e] at h3
      by_cases e' : id' = rid
      · subst e'
        rw [upd_self] at h4; cases h4
        have := r.dom id b h3
        omega
      · rw [upd_ne _ _ e'] at h4
        rw [hget_hins_ne _ _ e] at h1
        rw [hget_hins_ne _ _ e'] at h2
        exact r.inj id id' c h1 h2 h3 h4
  · by_cases e : id = rid
    · subst e; rw [upd_self] at h; cases h; exact r1.dom i b hb
    · rw [upd_ne _ _ e] at h; exact ro.dom id c h
  · by_cases e : id = rid
    · exact .inr (.inl e)
    · rw [upd_ne _ _ e] at h; exact .inl h

theorem post_shared {v v1 : AV} {u : Value} (h : BodyPost G w I α H nx v H1 nx' u w') (hf : freezeA nx H1 40 v = some v1) : Post G w I α H rid nx v1 (hbelow nx H1) nx' u w' := by
  obtain ⟨⟨I', α', ev, r1, hv, hn⟩, hle⟩ := h
  have hb : ∀ {id}, hget (hbelow nx H1) id ≠ none → id < nx ∧ hget H1 id ≠ none := fun {id} h => by
    rw [hget_hbelow] at h
    split at h
    · exact ⟨by assumption, h⟩
    · exact absurd rfl h
  have hO : ∀ b, Owned α' (hbelow nx H1) b → Owned α' H1 b := fun b ⟨id, h1, h2⟩ => ⟨id, (hb h1).2, h2⟩
  have e2 : Ev w' I' α' H1 w' (Frozen I' α' H1 nx) α' (hbelow nx H1) := ⟨.refl _, fun _ h => .inl h, fun _ _ h => h, Nat.le_refl _, fun _ _ _ => rfl, fun _ _ => rfl, fun b h => (frozen_own b h).imp id .inr, fun b h => .inr (hO b h)⟩
  refine ⟨⟨_, _, ev.trans e2, ⟨fun id blk h => ?_, fun id id' b h1 h2 => r1.inj id id' b (hb h1).2 (hb h2).2, fun b h => ?_, r1.dom, glob_ev r1 e2⟩, freeze_sound r1 nx 40 v v1 u hf hv, fun id h => (hn id h).imp (fun h => h) .inr⟩, hle⟩
  · rw [hget_hbelow] at h
    split at h
    · rename_i hlt
      obtain ⟨b, h1, h2, h3⟩ := r1.live id blk h
      refine ⟨b, h1, ?_, h3.ev r1 e2 rfl⟩
      rintro (h4 | ⟨k, h4, h5, h6⟩)
      · exact h2 h4
      · have := r1.inj k id b h5 (by rw [h]; simp) h6 h1
        omega
    · cases h
  · rcases frozen_own b h with h | ⟨id, _, h⟩
    · exact r1.imm b h
    · exact r1.dom id b h

theorem post_kept {v : AV} {u : Value} (h : BodyPost G w I α H nx v H1 nx' u w') : Post G w I α H rid nx v H1 nx' u w' := by
  obtain ⟨⟨I', α', ev, r1, hv, hn⟩, hle⟩ := h
  exact ⟨⟨I', α', ev, r1, hv, fun id h => (hn id h).imp (fun h => h) .inr⟩, hle⟩

theorem import_sound {v v1 : AV} {u : Value} {m : Nat} {h2 : Heap} {ft : Foot} (r : Rel G w I α H) (hrid : α rid = none) (h : BodyPost G w I (fun _ => none) [] 0 v H1 m u w')
    (hi : importA H1 v rid H nx = some (v1, h2, nx', ft)) : Post G w I α H rid nx v1 h2 nx' u w' := by
  unfold importA at hi
  split at hi
  · rename_i i len sz
    split at hi
    · rename_i l hl
      split at hi
      · rename_i l' hl'
        split at hi
        · rename_i hc
          simp only [Option.some.injEq, Prod.mk.injEq] at hi
          obtain ⟨rfl, rfl, rfl, rfl⟩ := hi
          obtain ⟨⟨I', α', ev, r1, hv, _⟩, _⟩ := h
          cases hv with
          | rsl _ _ _ _ _ cap b hb hcap ho => exact post_import r hrid ev r1 hl hb hl' hc fun I2 => .rsl _ _ _ _ _ cap b (upd_self _ _ _) hcap ho
        · simp at hi
      · simp at hi
    · simp at hi
  · rename_i i off
    split at hi
    · rename_i l hl
      split at hi
      · rename_i l' hl'
        split at hi
        · rename_i hc
          simp only [Option.some.injEq, Prod.mk.injEq] at hi
          obtain ⟨rfl, rfl, rfl, rfl⟩ := hi
          obtain ⟨⟨I', α', ev, r1, hv, _⟩, _⟩ := h
          cases hv with
          | ptr _ _ b hb => exact post_import r hrid ev r1 hl hb hl' hc fun I2 => .ptr _ _ b (upd_self _ _ _)
        · simp at hi
      · simp at hi
    · simp at hi
  · split at hi
    · rename_i v' hf
      split at hi
      · rename_i hc
        simp only [Option.some.injEq, Prod.mk.injEq] at hi
        obtain ⟨rfl, rfl, rfl, rfl⟩ := hi
        exact post_closed r h hf hc
      · simp at hi
    · simp at hi

theorem import_loc {v v1 : AV} {nx m : Nat} {ft : Foot} {h2 : Heap} (hi : importA H1 v rid H nx = some (v1, h2, m, ft)) : Loc (importA H1 v rid) H nx v1 h2 m ft := by
  unfold importA at hi
  split at hi
  · split at hi
    · rename_i l hl
      split at hi
      · rename_i l' hl'
        split at hi
        · rename_i hc
          simp only [Option.some.injEq, Prod.mk.injEq] at hi
          obtain ⟨rfl, rfl, rfl, rfl⟩ := hi
          exact .one rfl ⟨rfl, [(rid, some (.cells l'))], rfl, by simp, fun h3 nx3 _ => by simp only [importA, hl, hl', hc]; rfl⟩
        · simp at hi
      · simp at hi
    · simp at hi
  · split at hi
    · rename_i l hl
      split at hi
      · rename_i l' hl'
        split at hi
        · rename_i hc
          simp only [Option.some.injEq, Prod.mk.injEq] at hi
          obtain ⟨rfl, rfl, rfl, rfl⟩ := hi
          exact .one rfl ⟨rfl, [(rid, some (.cells l'))], rfl, by simp, fun h3 nx3 _ => by simp only [importA, hl, hl', hc]; rfl⟩
        · simp at hi
      · simp at hi
    · simp at hi
  · rename_i hn1 hn2
    split at hi
    · rename_i v' hf
      split at hi
      · rename_i hc
        simp only [Option.some.injEq, Prod.mk.injEq] at hi
        obtain ⟨rfl, rfl, rfl, rfl⟩ := hi
        refine .one rfl ⟨rfl, [], rfl, by simp, fun h3 nx3 _ => ?_⟩
        unfold importA
        split
        · exact absurd rfl (hn1 _ _ _)
        · exact absurd rfl (hn2 _ _)
        · simp only [hf, hc]; rfl
      · simp at hi
    · simp at hi

theorem looks_mem_add {x i : Nat} {acc : List Nat} (h : x ∈ acc) : x ∈ addN i acc := by
  unfold addN
  split
  · exact h
  · exact List.mem_cons_of_mem _ h
mutual
theorem idsA_mem {x : Nat} : ∀ (v : AV) (acc : List Nat), x ∈ acc → x ∈ idsA v acc := fun v acc h => by
  cases v with
  | ptr i o => simp only [idsA]; exact looks_mem_add h
  | rsl o i a l z => simp only [idsA]; exact looks_mem_add h
  | map i => simp only [idsA]; exact looks_mem_add h
  | fptr cs o => simp only [idsA]; exact idsAll_mem cs acc h
  | fsl f cs => simp only [idsA]; exact idsAll_mem cs acc h
  | agg cs => simp only [idsA]; exact idsAll_mem cs acc h
  | tuple cs => simp only [idsA]; exact idsAll_mem cs acc h
  | func f a b => simp only [idsA]; exact idsAll_mem b _ (idsAll_mem a _ h)
  | iface t v => simp only [idsA]; exact idsA_mem v acc h
  | _ => simp only [idsA]; exact h
theorem idsAll_mem {x : Nat} : ∀ (l : List AV) (acc : List Nat), x ∈ acc → x ∈ idsAll l acc
  | [], _, h => h
  | a :: t, acc, h => by simp only [idsAll]; exact idsAll_mem t _ (idsA_mem a _ h)
end
theorem idsP_mem {x : Nat} : ∀ (l : List (AV × AV)) (acc : List Nat), x ∈ acc → x ∈ idsP l acc
  | [], _, h => h
  | (a, b) :: t, acc, h => by simp only [idsP]; exact idsP_mem t _ (idsA_mem b _ (idsA_mem a _ h))
theorem idsB_mem {x : Nat} (b : Blk) (acc : List Nat) (h : x ∈ acc) : x ∈ idsB b acc := by
  cases b with
  | cells l => exact idsAll_mem l acc h
  | siter s p => exact h
  | mapb c s es => exact idsP_mem es acc h
  | miter m a b c => simp only [idsB]; exact looks_mem_add h
theorem idsH_mem {x : Nat} {h : Heap} : ∀ (l : List Nat) (acc : List Nat), x ∈ acc → x ∈ idsH h l acc
  | [], _, hx => hx
  | i :: t, acc, hx => by
    simp only [idsH]
    split
    · exact idsH_mem t _ (idsB_mem _ _ hx)
    · exact idsH_mem t _ hx
theorem lookSet_mem {x : Nat} {h : Heap} : ∀ (d : Nat) (l : List Nat), x ∈ l → x ∈ lookSet h d l
  | 0, _, hx => hx
  | d + 1, l, hx => by simp only [lookSet]; exact lookSet_mem d _ (idsH_mem l l hx)
theorem idsH_congr {h h2 : Heap} : ∀ (l acc : List Nat), (∀ i ∈ l, hget h2 i = hget h i) → idsH h2 l acc = idsH h l acc
  | [], _, _ => rfl
  | i :: t, acc, hk => by
    simp only [idsH]
    rw [hk i (by simp)]
    split
    · exact idsH_congr t _ fun j hj => hk j (by simp [hj])
    · exact idsH_congr t _ fun j hj => hk j (by simp [hj])
theorem lookSet_congr {h h2 : Heap} : ∀ (d : Nat) (l : List Nat), (∀ i ∈ lookSet h d l, hget h2 i = hget h i) → lookSet h2 d l = lookSet h d l
  | 0, _, _ => rfl
  | d + 1, l, hk => by
    simp only [lookSet] at hk ⊢
    rw [idsH_congr l l fun i hi => hk i (lookSet_mem d _ (idsH_mem l l hi))]
    exact lookSet_congr d _ hk
theorem cutH_congr {h h2 : Heap} : ∀ (L : List Nat), (∀ i ∈ L, hget h2 i = hget h i) → cutH h2 L = cutH h L
  | [], _ => rfl
  | i :: t, hk => by
    simp only [cutH]
    rw [hk i (by simp), cutH_congr t fun j hj => hk j (by simp [hj])]
theorem lookMods_congr {n : Nat} {h1 h h2 : Heap} : ∀ (L : List Nat), (∀ i ∈ L, hget h2 i = hget h i) → lookMods n h1 h2 L = lookMods n h1 h L
  | [], _ => rfl
  | i :: t, hk => by
    simp only [lookMods]
    rw [hk i (by simp), lookMods_congr t fun j hj => hk j (by simp [hj])]
theorem lookEnd_congr {L : List Nat} {id nx : Nat} {h h2 h1 : Heap} {v : AV} (hk : ∀ i ∈ L, hget h2 i = hget h i) : lookEnd L id nx h2 v h1 = lookEnd L id nx h v h1 := by
  have p : ∀ v, lookEnd.lookPlain L nx h2 h1 v = lookEnd.lookPlain L nx h h1 v := fun v => by
    unfold lookEnd.lookPlain
    rw [lookMods_congr L hk]
  unfold lookEnd
  simp only [p, lookMods_congr L hk]
theorem app_snoc : ∀ (m : Mods) (h : Heap) (k : Nat) (b : Option Blk), Mods.app (m ++ [(k, b)]) h = hset (Mods.app m h) k b
  | [], _, _, _ => rfl
  | (j, c) :: t, h, k, b => by simp only [List.cons_append, Mods.app]; exact app_snoc t _ k b

theorem fin_loc {L : List Nat} {id nx : Nat} {h : Heap} {res : AV × Option (List AV) × Mods} {v : AV} {h' : Heap} {nx' : Nat} {ft : Foot} {f : Heap → Nat → Option (AV × Heap × Nat × Foot)} (he : lookFin L id nx h res = (v, h', nx', ft))
    (hf : ∀ h2, (∀ i ∈ L, hget h2 i = hget h i) → f h2 nx = some (lookFin L id nx h2 res)) : Loc f h nx v h' nx' ft := by
  obtain ⟨u, row, m⟩ := res
  have hall : ft.all = false := by rw [show ft = (lookFin L id nx h (u, row, m)).2.2.2 by rw [he]]; rfl
  refine ⟨fun _ => ?_, fun h => by rw [hall] at h; cases h⟩
  cases row with
  | none =>
    simp only [lookFin, Prod.mk.injEq] at he
    obtain ⟨rfl, rfl, rfl, rfl⟩ := he
    refine ⟨rfl, m, rfl, fun p hp => List.mem_cons_of_mem _ (mem_keysM hp), fun h2 nx2 hk hnx => ?_⟩
    have := hnx.resolve_right (by simp)
    subst this
    rw [hf h2 fun i hi => hk i (by simp [hi])]
    rfl
  | some l =>
    simp only [lookFin, Prod.mk.injEq] at he
    obtain ⟨rfl, rfl, rfl, rfl⟩ := he
    refine ⟨rfl, m ++ [(id, some (.cells l))], by rw [app_snoc]; rfl, fun p hp => ?_, fun h2 nx2 hk hnx => ?_⟩
    · rcases List.mem_append.1 hp with hp | hp
      · exact List.mem_cons_of_mem _ (mem_keysM hp)
      · simp only [List.mem_singleton] at hp; subst hp; simp
    · have := hnx.resolve_right (by simp)
      subst this
      rw [hf h2 fun i hi => hk i (by simp [hi]), app_snoc]
      rfl

/-! ### Calls that see but a part of the heap, and keep what they made -/

theorem catM_app : ∀ {a b : Mods}, catM a b = a ++ b
  | [], _ => rfl
  | _ :: t, b => by simp only [catM, List.cons_append, catM_app (a := t)]
theorem oldM_mem {h1 : Heap} : ∀ {L : List Nat} {p : Nat × Option Blk}, p ∈ oldM h1 L → p.1 ∈ L ∧ p.2 = hget h1 p.1
  | [], _, h => by cases h
  | i :: t, p, h => by
    simp only [oldM, List.mem_cons] at h
    rcases h with rfl | h
    · simp
    · obtain ⟨a, b⟩ := oldM_mem h; exact ⟨by simp [a], b⟩
theorem oldM_all {h1 : Heap} : ∀ {L : List Nat} {i : Nat}, i ∈ L → (i, hget h1 i) ∈ oldM h1 L
  | j :: t, i, h => by
    simp only [oldM, List.mem_cons]
    rcases List.mem_cons.1 h with rfl | h
    · exact .inl rfl
    · exact .inr (oldM_all h)
theorem newM_mem {nx : Nat} {h1 : Heap} : ∀ {l : Heap} {p : Nat × Option Blk}, p ∈ newM nx h1 l → nx ≤ p.1 ∧ p.2 = hget h1 p.1
  | [], _, h => by cases h
  | (k, b) :: t, p, h => by
    simp only [newM] at h
    split at h
    · exact newM_mem h
    · rename_i hk
      have hk := blt_false hk
      rcases List.mem_cons.1 h with rfl | h
      · exact ⟨by simp only; omega, rfl⟩
      · exact newM_mem h
theorem newM_all {nx : Nat} {h1 : Heap} : ∀ {l : Heap} {i : Nat}, nx ≤ i → hget l i ≠ none → (i, hget h1 i) ∈ newM nx h1 l
  | [], _, _, h => absurd rfl h
  | (k, b) :: t, i, hi, h => by
    simp only [newM]
    by_cases e : k = i
    · subst e
      rw [blt_false_of (by omega)]
      simp
    · rw [hget_cons_ne _ _ e] at h
      split
      · exact newM_all hi h
      · exact List.mem_cons_of_mem _ (newM_all hi h)

theorem part_get {nx : Nat} {h1 h : Heap} {L : List Nat} (hfr : ∀ i, nx ≤ i → hget h i = none) (i : Nat) :
    hget (Mods.app (catM (oldM h1 L) (newM nx h1 h1)) h) i = if i ∈ L ∨ nx ≤ i then hget h1 i else hget h i := by
  rw [catM_app]
  obtain ⟨a1, a2⟩ := app_getM (oldM h1 L ++ newM nx h1 h1) h i
  by_cases hk : i ∈ Mods.keys (oldM h1 L ++ newM nx h1 h1)
  · obtain ⟨p, h2, rfl, h4⟩ := a1 hk
    rw [h4]
    rcases List.mem_append.1 h2 with h2 | h2
    · obtain ⟨b1, b2⟩ := oldM_mem h2
      rw [if_pos (.inl b1), b2]
    · obtain ⟨b1, b2⟩ := newM_mem h2
      rw [if_pos (.inr b1), b2]
  · rw [a2 hk]
    split
    · rename_i hc
      rcases hc with hc | hc
      · exact absurd (mem_keysM (List.mem_append_left _ (oldM_all (h1 := h1) hc))) hk
      · rw [hfr i hc]
        cases hh : hget h1 i with
        | none => rfl
        | some b => exact absurd (mem_keysM (List.mem_append_right _ (newM_all (nx := nx) (h1 := h1) hc (by rw [hh]; simp)))) hk
    · rfl

theorem post_part {v : AV} {u : Value} {L : List Nat} (r : Rel G w I α H) (hfr : ∀ id, nx ≤ id → α id = none) (h : BodyPost G w I α (cutH H L) nx v H1 nx' u w') :
    Post G w I α H rid nx v (Mods.app (catM (oldM H1 L) (newM nx H1 H1)) H) nx' u w' := by
  obtain ⟨⟨I', α', ev, r1, hv, hn⟩, hle⟩ := h
  have hH : ∀ i, nx ≤ i → hget H i = none := fun i hi => by
    cases hh : hget H i with
    | none => rfl
    | some blk =>
      obtain ⟨b, h1, _⟩ := r.live i blk hh
      rw [hfr i hi] at h1; cases h1
  have get := part_get (h1 := H1) (L := L) hH
  have hlow : ∀ {id b : Nat}, id < nx → α' id = some b → α id = some b := fun {id b} hid h => by
    rcases hn id (by rw [h]; simp) with h1 | h1
    · cases h2 : α id with
      | none => exact absurd h2 h1
      | some c => rw [ev.α_mono id c h2] at h; rw [← h]
    · omega
  have ownH : ∀ {b : Nat}, Owned α (cutH H L) b → Owned α H b := fun h => by
    obtain ⟨id, _, h1, h2⟩ := own_cut h
    exact ⟨id, h1, h2⟩
  have notcut : ∀ {id b : Nat}, id ∉ L → hget H id ≠ none → α id = some b → ¬ Owned α (cutH H L) b := fun {id b} hL h1 h2 ho => by
    obtain ⟨k, k1, k2, k3⟩ := own_cut ho
    exact hL (r.inj k id b k2 h1 k3 h2 ▸ k1)
  have eo : Ev w I α H w' I' α' (Mods.app (catM (oldM H1 L) (newM nx H1 H1)) H) :=
    { os := ev.os
      I_mono := ev.I_mono
      α_mono := ev.α_mono
      size := ev.size
      frame := fun b hb ho => ev.frame b hb fun h => ho (ownH h)
      shape := ev.shape
      Inew := fun b h => (ev.Inew b h).imp (fun h => h) (Or.imp (fun h => h) ownH)
      own := fun b ⟨id, h1, h2⟩ => by
        rw [get] at h1
        split at h1
        · exact (ev.own b ⟨id, h1, h2⟩).imp (fun h => h) ownH
        · rename_i hc
          exact .inr ⟨id, h1, hlow (by omega) h2⟩ }
  have cross : ∀ {i j b : Nat}, hget H1 i ≠ none → α' i = some b → j ∉ L → hget H j ≠ none → α j = some b → False := fun {i j b} a1 a2 hj a3 a4 => by
    rcases ev.own b ⟨i, a1, a2⟩ with h | h
    · have := r.dom j b a4; omega
    · exact notcut hj a3 a4 h
  refine ⟨⟨I', α', eo, ⟨fun id blk h => ?_, fun id id' b h1 h2 h3 h4 => ?_, r1.imm, r1.dom, glob_ev r eo⟩, hv, fun id h => (hn id h).imp (fun h => h) .inr⟩, hle⟩
  · rw [get] at h
    split at h
    · exact r1.live id blk h
    · rename_i hc
      obtain ⟨b, h1, h2, h3⟩ := r.live id blk h
      have hnc := notcut (fun h => hc (.inl h)) (by rw [h]; simp) h1
      have hb := r.dom id b h1
      refine ⟨b, ev.α_mono id b h1, fun h4 => ?_, h3.ev r eo (ev.frame b hb hnc)⟩
      rcases ev.Inew b h4 with h5 | h5 | h5
      · exact h2 h5
      · omega
      · exact hnc h5
  · rw [get] at h1 h2
    split at h1 <;> split at h2
    · exact r1.inj id id' b h1 h2 h3 h4
    · rename_i _ hc
      exact (cross h1 h3 (fun h => hc (.inl h)) h2 (hlow (by omega) h4)).elim
    · rename_i hc _
      exact (cross h2 h4 (fun h => hc (.inl h)) h1 (hlow (by omega) h3)).elim
    · rename_i hc hc'
      exact r.inj id id' b h1 h2 (hlow (by omega) h3) (hlow (by omega) h4)

theorem part_loc {O : Opts} {call : Caller} {d : Nat} {f : FuncId} {args : List AV} {h : Heap} {nx : Nat} {v : AV} {h' : Heap} {nx' : Nat} {ft : Foot} {g : Heap → Nat → Option (AV × Heap × Nat × Foot)} (hg : ∀ h nx, g h nx = callPart P O call d f args h nx)
    (hc : callPart P O call d f args h nx = some (v, h', nx', ft)) : Loc g h nx v h' nx' ft := by
  have hc0 := hc
  unfold callPart at hc
  split at hc
  · rename_i v0 h1 m hrun
    split at hc
    · cases hc
    · rename_i hle
      have hle := Nat.le_of_ble_eq_true hle
      simp only [Option.some.injEq, Prod.mk.injEq] at hc
      obtain ⟨rfl, rfl, rfl, rfl⟩ := hc
      refine ⟨fun h => (by cases h), fun _ n l hw => ?_⟩
      simp only [List.cons.injEq] at hw
      obtain ⟨rfl, rfl⟩ := hw
      refine ⟨rfl, hle, _, rfl, fun p hp => ?_, fun h2 hk => ?_⟩
      · rw [catM_app] at hp
        rcases List.mem_append.1 hp with hp | hp
        · exact .inl (oldM_mem hp).1
        · exact .inr (newM_mem hp).1
      · have hL : lookSet h2 d (idsAll args []) = lookSet h d (idsAll args []) := lookSet_congr d _ fun i hi => hk i (by simp [hi])
        have hC : cutH h2 (lookSet h d (idsAll args [])) = cutH h (lookSet h d (idsAll args [])) := cutH_congr _ fun i hi => hk i (by simp [hi])
        rw [hg]
        unfold callPart
        simp only [hL, hC, hrun]
        rw [show Nat.ble nx m = true from Nat.ble_eq_true_of_le hle]
  · cases hc

theorem look_loc {O : Opts} {call : Caller} {d : Nat} {f : FuncId} {args : List AV} {id : Nat} {h : Heap} {nx : Nat} {v : AV} {h' : Heap} {nx' : Nat} {ft : Foot} {g : Heap → Nat → Option (AV × Heap × Nat × Foot)} (hg : ∀ h nx, g h nx = callLook P O call d f args id h nx)
    (hc : callLook P O call d f args id h nx = some (v, h', nx', ft)) : Loc g h nx v h' nx' ft := by
  unfold callLook at hc
  split at hc
  · rename_i v0 h1 m hrun
    split at hc
    · rename_i res he
      simp only [Option.some.injEq] at hc
      refine fin_loc hc fun h2 hk => ?_
      have hL : lookSet h2 d (idsAll args []) = lookSet h d (idsAll args []) := lookSet_congr d _ hk
      have hC : cutH h2 (lookSet h d (idsAll args [])) = cutH h (lookSet h d (idsAll args [])) := cutH_congr _ hk
      rw [hg]
      unfold callLook
      simp only [hL, hC, hrun, lookEnd_congr hk, he]
    · cases hc
  · cases hc

/-! ### Whatever order a map is walked in -/

theorem catO_mem {k : AExit × St → Option (List (AExit × St))} : ∀ {l u : List (AExit × St)}, catO k l = some u → ∀ p ∈ l, ∃ t, k p = some t ∧ ∀ q ∈ t, q ∈ u
  | [], _, _, _, hp => by cases hp
  | a :: t, u, h, p, hp => by
    simp only [catO] at h
    split at h
    · rename_i la hla
      split at h
      · rename_i lt hlt
        simp only [Option.some.injEq] at h; subst h
        rcases List.mem_cons.1 hp with rfl | hp
        · exact ⟨la, hla, fun q hq => List.mem_append_left _ hq⟩
        · obtain ⟨t', e1, e2⟩ := catO_mem hlt p hp
          exact ⟨t', e1, fun q hq => List.mem_append_right _ (e2 q hq)⟩
      · cases h
    · cases h

theorem after_mem {call : Caller} {ops rest : List Oper} {dst : Option Tmp} {it : Nat} {s : St} : ∀ {l : List (AV × Blk)} {u : List (AExit × St)}, afterNext P G call ops rest dst it s l = some u → ∀ v b, (v, b) ∈ l →
    ∃ s' feet, runOps P G call ops (s.nx - lenN ops) rest 1 ⟨putA s.n s.slots dst v, hins s.heap it b, s.nx, s.n⟩ [] = some (s', feet) ∧ (.normal, s') ∈ u
  | [], _, _, _, _, hp => by cases hp
  | (v0, b0) :: t, u, h, v, b, hp => by
    simp only [afterNext] at h
    split at h
    · rename_i s' feet hr
      split at h
      · rename_i l' hl'
        simp only [Option.some.injEq] at h; subst h
        rcases List.mem_cons.1 hp with e | hp
        · cases e; exact ⟨s', feet, hr, by simp⟩
        · obtain ⟨s2, f2, e1, e2⟩ := after_mem hl' v b hp
          exact ⟨s2, f2, e1, by simp [e2]⟩
      · cases h
    · cases h

variable {call : Caller} {w0 : World} {I0 : Nat → Prop} {α0 : Nat → Option Nat} {H0 : Heap} {nx0 : Nat} {D : List Deferred}

/-- A region that begins with a step along a map. -/
theorem next_region {id : Nat} {ops : Array Oper} {o : Oper} {rest : List Oper} {x : Operand} {it m since last : Nat} {seen : List Nat} {mp : Blk} {l : List (AV × Blk)} {u : List (AExit × St)} {s : St} {a : Act} {w : World} {Q : Exit → Act → World → Prop}
    (hcall : CallOk P G call) (hr : CR G w0 I0 α0 H0 nx0 D s a w) (hops : ops.toList = o :: rest) (ho : o.op = .next x false) (hgu : o.guard = none) (hx : evA s.slots x = some (.ptr it 0)) (hit : hget s.heap it = some (.miter m since seen last)) (hmp : hget s.heap m = some mp)
    (hl : nextL (.miter m since seen last) mp = some l) (hne : l ≠ []) (hu : afterNext P G call (o :: rest) rest o.dst it ⟨s.slots, s.heap, s.nx + lenN (o :: rest), s.n⟩ l = some u)
    (hq : ∀ s', (.normal, s') ∈ u → ∀ a' w', CR G w0 I0 α0 H0 nx0 D s' a' w' → Q .normal a' w') : (Code.region id ops false).wp P Q a w := by
  have hlen : lenN (o :: rest) = ops.size := by rw [← hops, lenN_eq]; simp
  have hsz : ops.size = rest.length + 1 := by rw [← hlen, lenN_eq]; simp
  have ho0 : ops[0]? = some o := by
    have : ops.toList[0]? = some o := by rw [hops]; rfl
    simpa using this
  rw [hlen] at hu
  refine wp_region ?_
  rw [List.range_eq_range', hsz, List.range'_succ, wpOps_cons]
  have hr0 := hr.enter ops.size (fun j => decide (j < 0))
  obtain ⟨⟨I, α, ev, rel, hs, hres, hfr, hnew⟩, hle, hlo, hD, hszt, hsm⟩ := hr0
  simp only at hs hfr hle hszt hsm rel
  unfold wpOp
  simp only [ho0]
  have hw : wantedA ops.toList o s.slots = some true := by simp only [wantedA, hgu]
  rw [wanted_true hs hw, if_pos rfl]
  have c : Ctx P G call w I α s.heap (s.nx + 0) (s.nx + ops.size) := ⟨rel, hres 0 (by omega) (by simp), by omega, hfr, hcall⟩
  obtain ⟨b, hb⟩ : ∃ b, α it = some b := by
    obtain ⟨b, h1, _⟩ := rel.live it _ hit
    exact ⟨b, h1⟩
  have hxe : a.eval x = .pointer (some ⟨b, 0, none⟩) := by
    have := rep_ev hs hx
    generalize a.eval x = y at this
    cases this with
    | ptr _ _ b' hb' => rw [hb] at hb'; cases hb'; rfl
  rcases next_out (ty := o.type) c hb hit hmp hl with ⟨h0, _⟩ | ⟨v, bl, v', w', hm, hrun, hp⟩
  · exact absurd h0 hne
  · refine .inl (wp_of_out (R := fun y z => y = v' ∧ z = w') ?_ ?_)
    · unfold execOp
      simp only [ho, hxe, Sem.run_bind, hrun, Result.andThen_ok, Sem.run_pure]
      exact ⟨rfl, rfl⟩
    · rintro v' w' ⟨rfl, rfl⟩
      obtain ⟨s', feet, k1, k2⟩ := after_mem hu v bl hm
      have hrr : RR G w0 I0 α0 H0 nx0 D s.nx ops.size (fun j => j == 0 || decide (j < 0)) ⟨putA s.n s.slots o.dst v, hins s.heap it bl, s.nx + ops.size, s.n⟩ (a.put o.dst v') w' := by
        obtain ⟨⟨I', α', ev', rel', hv, hn'⟩, hle'⟩ := hp
        refine ⟨⟨I', α', ev.trans ev', rel', slots_put (fun t u hu => ?_) hv hszt hsm, fun j hj hLj => ?_, fun id hid => ?_, fun id hid => ?_⟩, hle, hlo, by rw [put_defers]; exact hD, by rw [put_size]; exact hszt, hsm⟩
        · obtain ⟨y, h1, h2⟩ := hs t u hu
          exact ⟨y, h1, h2.ev rel ev'⟩
        · simp only [Bool.or_eq_false_iff] at hLj
          have hji : j ≠ 0 := by simpa using hLj.1
          cases hh : α' (s.nx + j) with
          | none => rfl
          | some b =>
            rcases hn' (s.nx + j) (by rw [hh]; simp) with h1 | h1 | h1
            · exact absurd (hres j hj hLj.2) h1
            · omega
            · omega
        · cases hh : α' id with
          | none => rfl
          | some b =>
            simp only at hid
            rcases hn' id (by rw [hh]; simp) with h1 | h1 | h1
            · exact absurd (hfr id (by omega)) h1
            · omega
            · omega
        · simp only
          rcases hn' id hid with h1 | h1 | h1
          · exact hnew id h1
          · exact .inr ⟨by omega, by omega⟩
          · exact .inr ⟨by omega, by omega⟩
      have hsub : s.nx + ops.size - lenN (o :: rest) = s.nx := by rw [hlen]; omega
      simp only [hsub] at k1
      rw [← hops] at k1
      have := ops_sound (Q := Q) (base := s.nx) hcall rest 1 _ s' [] feet _ w' (by rw [hops]; rfl) k1 (hrr.mono fun j _ hj => by simp at hj ⊢; omega) (fun a' w' h' => hq s' k2 a' w' h'.out)
      simpa using this

theorem nd_sound {lf : Nat} (hm : P.follows .mixedOrders = true) (hcall : CallOk P G call) (hloc : CallLoc call) : ∀ (c : Code) (s : St) (l : List (AExit × St)) (a : Act) (w : World) (Q : Exit → Act → World → Prop),
    execNd P G call lf c s = some l → CR G w0 I0 α0 H0 nx0 D s a w → (∀ e s', (e, s') ∈ l → ∀ a' w', CR G w0 I0 α0 H0 nx0 D s' a' w' → Q (exitOf e) a' w') → c.wp P Q a w := by
  have det : ∀ (c : Code) (s : St) (l : List (AExit × St)) (a : Act) (w : World) (Q : Exit → Act → World → Prop), ((execA P G call lf c s).map fun r => [r]) = some l → CR G w0 I0 α0 H0 nx0 D s a w →
      (∀ e s', (e, s') ∈ l → ∀ a' w', CR G w0 I0 α0 H0 nx0 D s' a' w' → Q (exitOf e) a' w') → c.wp P Q a w := fun c s l a w Q h hr hq => by
    simp only [Option.map_eq_some_iff] at h
    obtain ⟨⟨e, s'⟩, h1, rfl⟩ := h
    exact code_sound hm hcall hloc c s s' e a w Q h1 hr (hq e s' (by simp))
  intro c
  induction c with
  | seq x y ihx ihy =>
    intro s l a w Q h hr hq
    simp only [execNd] at h
    split at h
    · rename_i la hla
      refine wp_seq (ihx s la a w _ hla hr fun e s' hm' a' w' hr' => ?_)
      obtain ⟨t, k1, k2⟩ := catO_mem h _ hm'
      cases e with
      | normal => exact ihy s' t a' w' Q k1 hr' fun e2 s2 h2 => hq e2 s2 (k2 _ h2)
      | exit id =>
        simp only [Option.some.injEq] at k1; subst k1
        exact hq _ s' (k2 _ (by simp)) a' w' hr'
      | ret =>
        simp only [Option.some.injEq] at k1; subst k1
        exact hq _ s' (k2 _ (by simp)) a' w' hr'
    · cases h
  | cond cnd x y ihx ihy =>
    intro s l a w Q h hr hq
    simp only [execNd] at h
    have hs := hr.ex
    obtain ⟨I, α, _, _, hs, _⟩ := hs
    split at h
    · rename_i hc
      exact wp_cond_true (rep_ev hs hc).bool_val (ihx s l a w Q h hr hq)
    · rename_i hc
      exact wp_cond_false (rep_ev hs hc).bool_val (ihy s l a w Q h hr hq)
    · simp at h
  | block id body ih =>
    intro s l a w Q h hr hq
    simp only [execNd] at h
    refine wp_block ?_
    split at h
    · rename_i la hla
      refine ih s la a w _ hla hr fun e s' hm' a' w' hr' => ?_
      obtain ⟨t, k1, k2⟩ := catO_mem h _ hm'
      cases e with
      | normal =>
        simp only [Option.some.injEq] at k1; subst k1
        exact hq _ s' (k2 _ (by simp)) a' w' hr'
      | exit i =>
        simp only at k1
        split at k1
        · rename_i hi
          simp only [Option.some.injEq] at k1; subst k1
          simp only [exitOf, Exit.inBlock]
          rw [if_pos (beq_iff.1 hi)]
          exact hq .normal s' (k2 _ (by simp)) a' w' hr'
        · rename_i hi
          simp only [Option.some.injEq] at k1; subst k1
          simp only [exitOf, Exit.inBlock]
          rw [if_neg (beq_false_iff.1 hi)]
          exact hq (.exit i) s' (k2 _ (by simp)) a' w' hr'
      | ret =>
        simp only [Option.some.injEq] at k1; subst k1
        exact hq _ s' (k2 _ (by simp)) a' w' hr'
    · cases h
  | loop body ih =>
    intro s l a w Q h hr hq
    simp only [execNd] at h
    refine wp_loop_rounds lf ?_
    exact go ih lf s l a w h hr hq
  | region id ops draw =>
    intro s l a w Q h hr hq
    simp only [execNd] at h
    split at h
    · rename_i o rest hops
      split at h
      · rename_i x hop hgu
        split at h
        · rename_i it hx
          split at h
          · rename_i m since seen last hit
            split at h
            · rename_i mp hmp
              split at h
              · rename_i p q t hl
                exact next_region hcall hr hops hop hgu hx hit hmp hl (by simp) h fun s' hm' => hq .normal s' hm'
              · exact det _ s l a w Q h hr hq
            · cases h
          · cases h
        · cases h
      · exact det _ s l a w Q h hr hq
    · exact det _ s l a w Q h hr hq
  | _ =>
    intro s l a w Q h hr hq
    exact det _ s l a w Q (by simpa only [execNd] using h) hr hq
 where
  go {body : Code} {f : St → Option (List (AExit × St))} {Q : Exit → Act → World → Prop} (ih : ∀ (s : St) (l : List (AExit × St)) (a : Act) (w : World) (Q : Exit → Act → World → Prop), f s = some l → CR G w0 I0 α0 H0 nx0 D s a w →
      (∀ e s', (e, s') ∈ l → ∀ a' w', CR G w0 I0 α0 H0 nx0 D s' a' w' → Q (exitOf e) a' w') → body.wp P Q a w) : ∀ (n : Nat) (s : St) (l : List (AExit × St)) (a : Act) (w : World), loopNd f n s = some l → CR G w0 I0 α0 H0 nx0 D s a w →
      (∀ e s', (e, s') ∈ l → ∀ a' w', CR G w0 I0 α0 H0 nx0 D s' a' w' → Q (exitOf e) a' w') → Code.rounds P body Q n a w
    | 0, s, l, a, w, h, _, _ => by simp [loopNd] at h
    | n + 1, s, l, a, w, h, hr, hq => by
      simp only [loopNd] at h
      rw [rounds_succ]
      split at h
      · rename_i la hla
        refine ih s la a w _ hla hr fun e s' hm' a' w' hr' => ?_
        obtain ⟨t, k1, k2⟩ := catO_mem h _ hm'
        cases e with
        | normal => exact go ih n s' t a' w' k1 hr' fun e2 s2 h2 => hq e2 s2 (k2 _ h2)
        | exit id =>
          simp only [Option.some.injEq] at k1; subst k1
          exact hq _ s' (k2 _ (by simp)) a' w' hr'
        | ret =>
          simp only [Option.some.injEq] at k1; subst k1
          exact hq _ s' (k2 _ (by simp)) a' w' hr'
      · cases h

theorem oneEnd_mem {rs : List ResultVar} {L : List Nat} {id nx : Nat} {h : Heap} : ∀ {l : List (AExit × St)} {res : AV × Option (List AV) × Mods}, oneEnd P G rs L id nx h l = some res → ∀ e s, (e, s) ∈ l →
    (e = .normal ∨ e = .ret) ∧ ∃ vs, resA P G s rs = some vs ∧ lookEnd L id nx h (tupA vs) s.heap = some res
  | [], _, h, _, _, _ => by cases h
  | (e0, s0) :: t, res, hh, e, s, hm => by
    simp only [oneEnd] at hh
    split at hh
    · rename_i v row he
      have head : (e0 = .normal ∨ e0 = .ret) ∧ ∃ vs, resA P G s0 rs = some vs ∧ lookEnd L id nx h (tupA vs) s0.heap = some (v, row, []) := by
        cases e0 with
        | exit i => simp at he
        | normal =>
          simp only at he
          split at he
          · rename_i l hl; exact ⟨.inl rfl, l, hl, he⟩
          · cases he
        | ret =>
          simp only at he
          split at he
          · rename_i l hl; exact ⟨.inr rfl, l, hl, he⟩
          · cases he
      split at hh
      · simp only [Option.some.injEq] at hh; subst hh
        simp only [List.mem_singleton, Prod.mk.injEq] at hm
        obtain ⟨rfl, rfl⟩ := hm
        exact head
      · rename_i p t'
        split at hh
        · rename_i v' row' hrec
          split at hh
          · rename_i hsame
            simp only [Option.some.injEq] at hh; subst hh
            rw [Bool.and_eq_true] at hsame
            have e1 := sameA_eq _ _ hsame.1
            have e2 : row = row' := by
              have := hsame.2
              split at this
              · rfl
              · rw [sameL_eq _ _ this]
              · cases this
            rcases List.mem_cons.1 hm with hm | hm
            · cases hm; exact head
            · have := oneEnd_mem hrec e s hm
              rw [← e1, ← e2] at this
              exact this
          · cases hh
        · cases hh
    · cases hh

/-- A body, whatever order its maps are walked in. -/
theorem each_sound {O : Opts} {f : FuncId} {fn : Func} {c : Code} {args : List AV} {vs : Array Value} {l : List (AExit × St)} {L : List Nat} {id : Nat} {h : Heap} {res : AV × Option (List AV) × Mods} (hm : P.follows .mixedOrders = true) (hcall : CallOk P O.glob call) (hloc : CallLoc call)
    (hfn : P.funcs[f]? = some fn) (hc : fn.body = some c) (hname : (fn.name == "runtime.NumGoroutine") = false) (hsz : (Nat.ble (lenN args) fn.ntmps && Nat.ble fn.ntmps 4095) = true)
    (hex : execNd P O.glob call O.lf c ⟨argsT args 0 .tip, H, nx, fn.ntmps⟩ = some l) (hone : oneEnd P O.glob fn.results.toList L id nx h l = some res) (r : Rel O.glob w I α H) (ha : RepL w I α args vs.toList) (hf : ∀ id, nx ≤ id → α id = none) :
    (callFunc f vs).run P w = .ok (.enter f vs) w ∧ Calls P f vs w fun e w' => ∃ u, e = .returned u ∧ ∃ v H' nx', BodyPost O.glob w I α H nx v H' nx' u w' ∧ lookEnd L id nx h v H' = some res := by
  rw [Bool.and_eq_true, Nat.ble_eq, Nat.ble_eq, lenN_eq] at hsz
  refine ⟨?_, ?_⟩
  · unfold callFunc
    simp only [Sem.run_bind, run_program, Result.andThen_ok, hfn, hname, hc, Bool.false_eq_true, if_false, Option.isNone_some, Sem.run_pure]
  · refine calls_of_wp hfn hc ?_
    have hvs : args.length = vs.size := by rw [ha.1]; simp
    have hr0 : CR O.glob w I α H nx [] ⟨argsT args 0 .tip, H, nx, fn.ntmps⟩ { tmps := vs ++ Array.replicate (fn.ntmps - vs.size) undef, defers := [] } w :=
      ⟨⟨I, α, .refl, r, slots_args ha (by omega), fun i hi => absurd hi (Nat.not_lt_zero i), hf, fun id h => .inl h⟩, Nat.le_refl _, Nat.le_refl _, rfl, by simp; omega, hsz.2⟩
    refine nd_sound hm hcall hloc c _ l _ w _ hex hr0 fun e s hmem a' w' hr => ?_
    obtain ⟨he, vs', h1, h2⟩ := oneEnd_mem hone e s hmem
    obtain ⟨⟨I', α', k1, k2, k3, _, _, k6⟩, _, k8, k9, _, _⟩ := hr
    obtain ⟨u, e1, e2⟩ := results_sound (P := P) (fn := fn) k2 k3 h1
    rcases he with rfl | rfl <;> exact ⟨k9, u, e1, u, rfl, _, _, _, ⟨⟨I', α', k1, k2, e2, k6⟩, k8⟩, h2⟩

theorem each_loc {O : Opts} {d : Nat} {f : FuncId} {args : List AV} {id : Nat} {h : Heap} {nx : Nat} {v : AV} {h' : Heap} {nx' : Nat} {ft : Foot} {g : Heap → Nat → Option (AV × Heap × Nat × Foot)} (hg : ∀ h nx, g h nx = callEach P O call d f args id h nx)
    (hc : callEach P O call d f args id h nx = some (v, h', nx', ft)) : Loc g h nx v h' nx' ft := by
  unfold callEach at hc
  split at hc
  · rename_i fn hfn
    split at hc
    · rename_i c hbody
      split at hc
      · cases hc
      · rename_i hname
        split at hc
        · cases hc
        · rename_i hsz
          split at hc
          · rename_i l hex
            split at hc
            · rename_i res hone
              simp only [Option.some.injEq] at hc
              refine fin_loc hc fun h2 hk => ?_
              have hL : lookSet h2 d (idsAll args []) = lookSet h d (idsAll args []) := lookSet_congr d _ hk
              have hC : cutH h2 (lookSet h d (idsAll args [])) = cutH h (lookSet h d (idsAll args [])) := cutH_congr _ hk
              have hE : ∀ l, oneEnd P O.glob fn.results.toList (lookSet h d (idsAll args [])) id nx h2 l = oneEnd P O.glob fn.results.toList (lookSet h d (idsAll args [])) id nx h l := fun l => by
                induction l with
                | nil => rfl
                | cons p t ih =>
                  obtain ⟨e, s⟩ := p
                  simp only [oneEnd, lookEnd_congr hk, ih]
              rw [hg]
              unfold callEach
              simp only [hfn, hbody, hname, hsz, hL, hC, hex, hE, hone]
            · cases hc
          · cases hc
    · cases hc
  · cases hc

/-! ### What stands for functions that have no body -/

theorem clone_imp {f : FuncId} {args : List AV} {vs : Array Value} {id : Nat} {v : AV} {h' : Heap} {nx2 : Nat} {ft : Foot} (c : Ctx P G call w I α H id nx) (ha : RepL w I α args vs.toList) (hc : callClone P f args id H nx = some (v, h', nx2, ft)) :
    Out P (Post G w I α H id nx v h' nx2) ((callFunc f vs).run P w) := by
  unfold callClone at hc
  split at hc
  · rename_i fn hfn
    split at hc
    · rename_i hb
      simp only [Bool.and_eq_true, beq_iff_eq] at hb
      obtain ⟨hb1, hb2, hb3⟩ := hb
      split at hc
      · rename_i t m
        split at hc
        · rename_i cl st es hm
          simp only [Option.some.injEq, Prod.mk.injEq] at hc
          obtain ⟨rfl, rfl, rfl, rfl⟩ := hc
          obtain ⟨y, r', e1, h1, h2⟩ := ha.cons_inv
          have e3 : vs = #[y] := by apply Array.ext'; rw [e1, h2.nil_inv]
          subst e3
          cases h1 with
          | iface _ _ z hz =>
            cases hz with
            | map _ b hb' =>
              obtain ⟨b', k1, _, en, q1, q2, q4, q3⟩ := c.rel.live m _ hm
              rw [hb'] at k1; cases k1
              have hn : Extern.findNext fn = none := by
                unfold Extern.findNext
                rw [hb2, hb3]
                kernel_rfl
              have hx : Extern.find fn = some Extern.MapsClone.clone := by
                unfold Extern.find
                rw [hb2, hb3]
                kernel_rfl
              rw [run_callFunc_extern hfn (by rw [hb2]; decide) hb1 hn hx]
              have hget : (getObj b).run P w = .ok (.map en cl) w := by simp [getObj, Sem.run, q1]
              have hrun : (Extern.MapsClone.clone #[.iface t (.map (some b))]).run P w = .ok (.iface t (.map (some w.heap.size))) { w with heap := w.heap.push (.map en cl) } := by
                have e : Extern.MapsClone.clone #[.iface t (.map (some b))] = (getObj b >>= fun o => match o with
                    | .map entries clock => (newObj (.map entries clock) >>= fun n => pure (.iface t (.map (some n))))
                    | _ => stuck "maps.clone: a map expected") := rfl
                rw [e]
                simp [hget, newObj, Sem.run]
              rw [hrun]
              refine post_new (w' := { w with heap := w.heap.push (.map en cl) }) (o := .map en cl) (blk := .mapb cl st es) c rfl (fun α' hα rel => ?_) (fun α' hα => .iface _ _ _ (.map _ _ hα))
              have evp : Ev w I α H { w with heap := w.heap.push (.map en cl) } I α H := ev_push (o := .map en cl) rfl I (fun _ h => h) (fun _ h => .inl h)
              refine ⟨en, by simp, q2, q4, fun i x y g1 g2 => ?_⟩
              have := q3 i x y g1 g2
              exact ⟨(this.1.ev c.rel evp).mono (fun _ h => h) hα (fun _ _ _ => rfl) (fun _ _ _ => rfl), (this.2.ev c.rel evp).mono (fun _ h => h) hα (fun _ _ _ => rfl) (fun _ _ _ => rfl)⟩
        · cases hc
      · cases hc
    · cases hc
  · cases hc

theorem clone_loc {f : FuncId} {args : List AV} {id : Nat} {h : Heap} {nx : Nat} {v : AV} {h' : Heap} {nx' : Nat} {ft : Foot} {g : Heap → Nat → Option (AV × Heap × Nat × Foot)} (hg : ∀ h nx, g h nx = callClone P f args id h nx)
    (hc : callClone P f args id h nx = some (v, h', nx', ft)) : Loc g h nx v h' nx' ft := by
  unfold callClone at hc
  split at hc
  · rename_i fn hfn
    split at hc
    · rename_i hb
      split at hc
      · rename_i t m
        split at hc
        · rename_i cl st es hm
          simp only [Option.some.injEq, Prod.mk.injEq] at hc
          obtain ⟨rfl, rfl, rfl, rfl⟩ := hc
          refine .one rfl ⟨rfl, [(id, some (.mapb cl st es))], rfl, by simp, fun h2 nx2 hk => ?_⟩
          rw [hg]
          unfold callClone
          simp only [hfn, hb]
          rw [hk m (by simp), hm]
          rfl
        · cases hc
      · cases hc
    · cases hc
  · cases hc

theorem compare_eq : ∀ (a b : List UInt8), Lib.compareBytes a b = match ltBytes a b with
    | true => -1
    | false => match ltBytes b a with
      | true => 1
      | false => 0
  | [], [] => rfl
  | [], _ :: _ => rfl
  | _ :: _, [] => rfl
  | a :: x, b :: y => by
    simp only [Lib.compareBytes, ltBytes]
    rcases Nat.lt_trichotomy a.toNat b.toNat with h | h | h
    · have h1 : a < b := h
      simp [blt_iff.2 h, h1]
    · have h1 : a = b := UInt8.toNat.inj h
      subst h1
      have h2 : Nat.blt a.toNat a.toNat = false := blt_false_of (by omega)
      have h3 : Nat.beq a.toNat a.toNat = true := beq_iff.2 rfl
      simp [h2, compare_eq x y]
    · have h1 : ¬ a < b := fun h' => by have : a.toNat < b.toNat := h'; omega
      have h2 : b < a := h
      have h3 : Nat.blt a.toNat b.toNat = false := blt_false_of (by omega)
      have h4 : Nat.beq a.toNat b.toNat = false := beq_false_iff.2 (by omega)
      simp [h1, h2, h3, h4, blt_iff.2 h]

theorem cmp_imp {f : FuncId} {args : List AV} {vs : Array Value} {id : Nat} {v : AV} {h' : Heap} {nx2 : Nat} {ft : Foot} (c : Ctx P G call w I α H id nx) (ha : RepL w I α args vs.toList) (hc : callCmp P f args H nx = some (v, h', nx2, ft)) :
    Out P (Post G w I α H id nx v h' nx2) ((callFunc f vs).run P w) := by
  unfold callCmp at hc
  split at hc
  · rename_i fn hfn
    split at hc
    · rename_i hb
      simp only [Bool.and_eq_true, beq_iff_eq] at hb
      obtain ⟨hb1, hb2, hb3⟩ := hb
      split at hc
      · rename_i x y
        simp only [Option.some.injEq, Prod.mk.injEq] at hc
        obtain ⟨rfl, rfl, rfl, rfl⟩ := hc
        obtain ⟨p, r', e1, h1, h2⟩ := ha.cons_inv
        obtain ⟨q, r'', e2, h3, h4⟩ := h2.cons_inv
        have e3 : vs = #[p, q] := by apply Array.ext'; rw [e1, e2, h4.nil_inv]
        subst e3
        cases h1 with
        | str _ ba hba =>
          cases h3 with
          | str _ bb hbb =>
            have hn : Extern.findNext fn = none := by
              unfold Extern.findNext
              rw [hb2, hb3]
              kernel_rfl
            have hx : Extern.find fn = some Extern.BytealgCompare.compare := by
              unfold Extern.find
              rw [hb2, hb3]
              kernel_rfl
            rw [run_callFunc_extern hfn (by rw [hb2]; decide) hb1 hn hx, Lib.run_compareString, hba, hbb, compare_eq]
            exact post_same c.rel (.int _ _)
      · cases hc
    · cases hc
  · cases hc

theorem cmp_loc {f : FuncId} {args : List AV} {h : Heap} {nx : Nat} {v : AV} {h' : Heap} {nx' : Nat} {ft : Foot} {g : Heap → Nat → Option (AV × Heap × Nat × Foot)} (hg : ∀ h nx, g h nx = callCmp P f args h nx)
    (hc : callCmp P f args h nx = some (v, h', nx', ft)) : Loc g h nx v h' nx' ft := by
  unfold callCmp at hc
  split at hc
  · rename_i fn hfn
    split at hc
    · rename_i hb
      split at hc
      · simp only [Option.some.injEq, Prod.mk.injEq] at hc
        obtain ⟨rfl, rfl, rfl, rfl⟩ := hc
        refine .one rfl ⟨rfl, [], rfl, by simp, fun h2 nx2 hk => ?_⟩
        rw [hg]
        unfold callCmp
        simp only [hfn, hb]
        rfl
      · cases hc
    · cases hc
  · cases hc

/-- A function, called with closed arguments, answers so. -/
structure SemCall (P : Program) (G : Glob) (f : FuncId) (args : List AV) (r : AV) : Prop where
  out : ∀ w I α H rid nx (vs : Array Value), Rel G w I α H → RepL w I α args vs.toList → α rid = none → rid < nx → (∀ id, nx ≤ id → α id = none) → Out P (Post G w I α H rid nx r H nx) ((callFunc f vs).run P w)

theorem noCall_ok' : CallOk P G (fun _ _ _ _ _ => none) ∧ CallLoc (fun _ _ _ _ _ => none) := by
  refine ⟨?_, ?_⟩
  · intro f args rid H nx v H' nx' ft h; cases h
  · intro f args id h nx v h' nx' ft hc; cases hc

theorem calls_sound {O : Opts} (hm : P.follows .mixedOrders = true) (hsum : ∀ f args v, O.summ f args = some v → SemCall P O.glob f args v) (hg : ∀ g l, O.glob g = some l → closedAll l = true) (hcx : CallOk P O.glob O.cx ∧ CallLoc O.cx) : ∀ n, CallOk P O.glob (callN P O n) ∧ CallLoc (callN P O n)
  | 0 => ⟨fun f args rid H nx v H' nx' ft h => by simp [callN] at h, fun f args id h nx v h' nx' ft hc => by simp [callN] at hc⟩
  | n + 1 => by
    obtain ⟨ih1, ih2⟩ := calls_sound hm hsum hg hcx n
    constructor
    · intro f args rid H nx v H' nx' ft h w I α vs r ha hrid hlt hfr
      have own : ∀ {v0 H1 m}, closedAll args = true → runBody P O (callN P O n) f args [] 0 = some (v0, H1, m) → _ := fun {v0 H1 m} hc hrun =>
        body_sound (w := w) (I := I) (α := fun _ => none) hm ih1 ih2 hrun (rel_empty hg r) (repl_closed ha hc) (fun _ _ => rfl)
      have shared : ∀ {v0 H1 m}, runBody P O (callN P O n) f args H nx = some (v0, H1, m) → _ := fun {v0 H1 m} hrun =>
        body_sound (w := w) (I := I) (α := α) hm ih1 ih2 hrun r ha hfr
      have cx : Ctx P O.glob (callN P O n) w I α H rid nx := ⟨r, hrid, hlt, hfr, ih1⟩
      simp only [callN] at h
      split at h
      · unfold callLook at h
        split at h
        · rename_i v0 H1 m hrun
          split at h
          · rename_i res he
            simp only [Option.some.injEq] at h
            obtain ⟨e1, e2⟩ := body_sound (w := w) (I := I) (α := α) hm ih1 ih2 hrun (rel_cut r _) ha hfr
            rw [e1]
            refine Calls.mono e2 ?_
            rintro e w' ⟨u, rfl, hp⟩
            have := post_look r hrid hp he
            have hnx : nx = nx' := congrArg (fun q : AV × Heap × Nat × Foot => q.2.2.1) h
            rw [h] at this
            subst hnx
            exact ⟨u, rfl, this⟩
          · simp at h
        · simp at h
      · unfold callEach at h
        split at h
        · rename_i fn hfn
          split at h
          · rename_i c hbody
            split at h
            · simp at h
            · rename_i hname
              split at h
              · simp at h
              · rename_i hsz
                split at h
                · rename_i l hex
                  split at h
                  · rename_i res hone
                    simp only [Option.some.injEq] at h
                    obtain ⟨e1, e2⟩ := each_sound hm ih1 ih2 hfn hbody hname hsz hex hone (rel_cut r _) ha hfr
                    rw [e1]
                    refine Calls.mono e2 ?_
                    rintro e w' ⟨u, rfl, v0, H1, m0, hp, he⟩
                    have := post_look r hrid hp he
                    have hnx : nx = nx' := congrArg (fun q : AV × Heap × Nat × Foot => q.2.2.1) h
                    rw [h] at this
                    subst hnx
                    exact ⟨u, rfl, this⟩
                  · simp at h
                · simp at h
          · simp at h
        · simp at h
      · exact clone_imp cx ha h
      · unfold callPart at h
        split at h
        · rename_i v0 H1 m hrun
          split at h
          · simp at h
          · simp only [Option.some.injEq, Prod.mk.injEq] at h
            obtain ⟨rfl, rfl, rfl, rfl⟩ := h
            obtain ⟨e1, e2⟩ := body_sound (w := w) (I := I) (α := α) hm ih1 ih2 hrun (rel_cut r _) ha hfr
            rw [e1]
            refine Calls.mono e2 ?_
            rintro e w' ⟨u, rfl, hp⟩
            exact ⟨u, rfl, post_part r hfr hp⟩
        · simp at h
      · exact cmp_imp cx ha h
      · exact hcx.1 f args rid H nx v H' nx' ft h w I α vs r ha hrid hlt hfr
      · rename_i hhow hcl
        split at h
        · rename_i vs0 hsm
          simp only [Option.some.injEq, Prod.mk.injEq] at h
          obtain ⟨rfl, rfl, rfl, rfl⟩ := h
          exact (hsum f args vs0 hsm).out w I α H rid nx vs r ha hrid hlt hfr
        split at h
        · rename_i v0 H1 m hrun
          split at h
          · rename_i v1 hfz
            split at h
            · rename_i hc
              simp only [Option.some.injEq, Prod.mk.injEq] at h
              obtain ⟨rfl, rfl, rfl, rfl⟩ := h
              obtain ⟨e1, e2⟩ := own hcl hrun
              rw [e1]
              refine Calls.mono e2 ?_
              rintro e w' ⟨u, rfl, hp⟩
              exact ⟨u, rfl, post_closed r hp hfz hc⟩
            · simp at h
          · simp at h
        · simp at h
      · rename_i hhow hcl
        split at h
        · rename_i v0 H1 m hrun
          obtain ⟨e1, e2⟩ := own hcl hrun
          rw [e1]
          refine Calls.mono e2 ?_
          rintro e w' ⟨u, rfl, hp⟩
          exact ⟨u, rfl, import_sound r hrid hp h⟩
        · simp at h
      · split at h
        · rename_i v0 H1 m hrun
          split at h
          · rename_i v1 hfz
            simp only [Option.some.injEq, Prod.mk.injEq] at h
            obtain ⟨rfl, rfl, rfl, rfl⟩ := h
            obtain ⟨e1, e2⟩ := shared hrun
            rw [e1]
            refine Calls.mono e2 ?_
            rintro e w' ⟨u, rfl, hp⟩
            exact ⟨u, rfl, post_shared hp hfz⟩
          · simp at h
        · simp at h
      · split at h
        · rename_i v0 H1 m hrun
          simp only [Option.some.injEq, Prod.mk.injEq] at h
          obtain ⟨rfl, rfl, rfl, rfl⟩ := h
          obtain ⟨e1, e2⟩ := shared hrun
          rw [e1]
          refine Calls.mono e2 ?_
          rintro e w' ⟨u, rfl, hp⟩
          exact ⟨u, rfl, post_kept hp⟩
        · simp at h
    · intro f args id h nx v h' nx' ft hc
      have hc0 := hc
      simp only [callN] at hc
      split at hc
      · rename_i hhow
        exact look_loc (fun h nx => by simp only [callN, hhow]) hc
      · rename_i hhow
        exact each_loc (fun h nx => by simp only [callN, hhow]) hc
      · rename_i hhow
        exact clone_loc (fun h nx => by simp only [callN, hhow]) hc
      · rename_i hhow
        exact part_loc (fun h nx => by simp only [callN, hhow]) hc
      · rename_i hhow
        exact cmp_loc (fun h nx => by simp only [callN, hhow]) hc
      · rename_i hhow
        have e : callN P O (n + 1) f args id = O.cx f args id := by
          funext h nx
          simp only [callN, hhow]
        rw [e]
        exact hcx.2 f args id h nx v h' nx' ft hc
      · rename_i hhow hcl
        split at hc
        · rename_i vs0 hsm
          simp only [Option.some.injEq, Prod.mk.injEq] at hc
          obtain ⟨rfl, rfl, rfl, rfl⟩ := hc
          exact .one rfl ⟨rfl, [], rfl, by simp, fun h2 nx2 _ => by simp only [callN, hhow, hcl, hsm]; rfl⟩
        rename_i hsm
        split at hc
        · rename_i v0 H1 m hrun
          split at hc
          · rename_i v1 hfz
            split at hc
            · rename_i hcc
              simp only [Option.some.injEq, Prod.mk.injEq] at hc
              obtain ⟨rfl, rfl, rfl, rfl⟩ := hc
              exact .one rfl ⟨rfl, [], rfl, by simp, fun h2 nx2 _ => by simp only [callN, hhow, hcl, hsm, hrun, hfz, hcc]; rfl⟩
            · simp at hc
          · simp at hc
        · simp at hc
      · rename_i hhow hcl
        split at hc
        · rename_i v0 H1 m hrun
          obtain ⟨l1, l2⟩ := import_loc hc
          exact ⟨fun hall => by
            obtain ⟨e1, md, e2, e3, e4⟩ := l1 hall
            exact ⟨e1, md, e2, e3, fun h2 nx2 hk hx => by simp only [callN, hhow, hcl, hrun]; exact e4 h2 nx2 hk hx⟩, fun hall k l hw => by
            obtain ⟨e1, e0, md, e2, e3, e4⟩ := l2 hall k l hw
            exact ⟨e1, e0, md, e2, e3, fun h2 hk => by simp only [callN, hhow, hcl, hrun]; exact e4 h2 hk⟩⟩
        · simp at hc
      · split at hc
        · split at hc
          · simp only [Option.some.injEq, Prod.mk.injEq] at hc
            obtain ⟨_, _, _, rfl⟩ := hc
            exact .any rfl rfl
          · simp at hc
        · simp at hc
      · split at hc
        · simp only [Option.some.injEq, Prod.mk.injEq] at hc
          obtain ⟨_, _, _, rfl⟩ := hc
          exact .any rfl rfl
        · simp at hc

end
end Go.Proofs.Abs
