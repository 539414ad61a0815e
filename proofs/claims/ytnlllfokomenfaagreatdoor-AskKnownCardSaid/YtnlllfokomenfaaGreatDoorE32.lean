/- Functions that answer with a pointer into what they were handed, and turn nothing. -/
import Derived.Test.YtnlllfokomenfaaGreatDoorE31
namespace Go.Proofs.Abs
open Go

theorem semRef {P : Program} {G : Glob} {f : FuncId} {args : List AV} {i off : Nat} (hg : ∀ g l, G g = some l → closedAll l = true) (hmem : ∃ o, AV.ptr i o ∈ args)
    (h : ∀ H nx, ∃ nx', BodySem P G f args H nx (.ptr i off) H nx') : SemCall P G f args (.ptr i off) := by
  refine ⟨?_⟩
  intro w I α H rid nx vs r ha hrid hlt hf
  obtain ⟨nx', hb⟩ := h H nx
  obtain ⟨e1, e2⟩ := hb w I α vs r ha hf
  rw [e1]
  refine Calls.mono e2 ?_
  rintro e w' ⟨u, rfl, hp⟩
  refine ⟨u, rfl, ?_⟩
  obtain ⟨⟨I', α', ev, rel, hv, hn⟩, _⟩ := hp
  have hid : ∃ b, α i = some b := by
    obtain ⟨o, hm⟩ := hmem
    obtain ⟨k, hk⟩ := List.getElem?_of_mem hm
    obtain ⟨y, _, hr⟩ := ha.get hk
    cases hr with | ptr _ _ b hb => exact ⟨b, hb⟩
  obtain ⟨b, hb⟩ := hid
  have back : ∀ {id k}, hget H id ≠ none → α' id = some k → α id = some k := fun {id k} h1 h2 => by
    cases hh : hget H id with
    | none => exact absurd hh h1
    | some blk =>
      obtain ⟨k', h3, _⟩ := r.live id blk hh
      rw [ev.α_mono id k' h3] at h2
      rw [h3]; exact h2
  have hvr : Rep w' I' α (.ptr i off) u := by
    cases hv with
    | ptr _ _ b' hb' =>
      have : b' = b := by rw [ev.α_mono i b hb] at hb'; exact (Option.some.inj hb').symm
      subst this
      exact .ptr i off b' hb
  have ev2 : Ev w I α H w' I' α H := ⟨ev.os, ev.I_mono, fun _ _ h => h, ev.size, ev.frame, ev.shape, ev.Inew, fun _ h => .inr h⟩
  have rel2 : Rel G w' I' α H :=
    { live := fun id blk hi => by
        obtain ⟨k, h1, h2, h3⟩ := r.live id blk hi
        obtain ⟨k', h4, h5, h6⟩ := rel.live id blk hi
        have : k' = k := by rw [ev.α_mono id k h1] at h4; exact (Option.some.inj h4).symm
        subst this
        refine ⟨k', h1, h5, ?_⟩
        cases blk with
        | cells l =>
          obtain ⟨c, e, q1, q2, q3⟩ := h6
          obtain ⟨c0, e0, p1, p2, p3⟩ := h3
          exact ⟨c, e, q1, q2, q3.1, fun j x y hx hy => rep_dom ev.α_mono (p3.get hx).choose_spec.2 (q3.2 j x y hx hy)⟩
        | siter s p => exact h6
        | miter m a b c =>
          obtain ⟨mb, q1, q2⟩ := h6
          obtain ⟨mb0, p1, p2⟩ := h3
          have : mb = mb0 := by rw [ev.α_mono m mb0 p1] at q1; exact (Option.some.inj q1).symm
          subst this
          exact ⟨mb, p1, q2⟩
        | mapb cl st es =>
          obtain ⟨en, q1, q2, q4, q3⟩ := h6
          obtain ⟨en0, p1, p2, _, p3⟩ := h3
          refine ⟨en, q1, q2, q4, fun j x y hx hy => ?_⟩
          have hj : j < en0.size := by
            rw [← p2]
            exact (List.getElem?_eq_some_iff.1 hx).1
          have := p3 j x en0[j] hx (by simp [hj])
          exact ⟨rep_dom ev.α_mono this.1 (q3 j x y hx hy).1, rep_dom ev.α_mono this.2 (q3 j x y hx hy).2⟩
      inj := r.inj
      imm := rel.imm
      dom := fun id k h => by have := r.dom id k h; have := ev.size; omega
      glob := fun g l hgl => by
        obtain ⟨h1, h2⟩ := rel.glob g l hgl
        refine ⟨h1, fun j x hx => ?_⟩
        obtain ⟨y, q1, q2⟩ := h2 j x hx
        exact ⟨y, q1, rep_closed q2 (closed_at (hg g l hgl) hx)⟩ }
  exact ⟨⟨I', α, ev2, rel2, hvr, fun id h => .inl h⟩, Nat.le_refl _⟩
 where
  rep_dom {w w' : World} {I I' : Nat → Prop} {α α' : Nat → Option Nat} (hm : ∀ id b, α id = some b → α' id = some b) {v : AV} {x y : Value} (h0 : Rep w I α v x) (h : Rep w' I' α' v y) : Rep w' I' α v y := by
    induction h generalizing x with
    | bool b => exact .bool b
    | int k n => exact .int k n
    | str s b h => exact .str s b h
    | ptr id off b h =>
      cases h0 with | ptr _ _ b0 hb0 =>
      have : b0 = b := by rw [hm id b0 hb0] at h; exact Option.some.inj h
      subst this; exact .ptr id off b0 hb0
    | nilp => exact .nilp
    | fptr cs off b base g hI hg hr ih =>
      cases h0 with | fptr _ _ b0 base0 g0 hI0 hg0 hr0 =>
      exact .fptr cs off b base g hI hg fun j c hc => ih j c hc (hr0 j c hc)
    | gptr g off => exact .gptr g off
    | fsl full es a len cap sz b base g hl hc hf ha hI hs hg hr ih =>
      cases h0 with | fsl _ _ a0 len0 cap0 sz0 b0 base0 g0 hl0 hc0 hf0 ha0 hI0 hs0 hg0 hr0 =>
      exact .fsl full es a len cap sz b base g hl hc hf ha hI hs hg fun i e j c h1 h2 => ih i e j c h1 h2 (hr0 i e j c h1 h2)
    | rsl own id off len sz cap b h hc ho =>
      cases h0 with | rsl _ _ _ _ _ cap0 b0 hb0 _ _ =>
      have : b0 = b := by rw [hm id b0 hb0] at h; exact Option.some.inj h
      subst this; exact .rsl own id off len sz cap b0 hb0 hc ho
    | nilsl => exact .nilsl
    | map id b h =>
      cases h0 with | map _ b0 hb0 =>
      have : b0 = b := by rw [hm id b0 hb0] at h; exact Option.some.inj h
      subst this; exact .map id b0 hb0
    | nilmap => exact .nilmap
    | func fn a c a' c' h1 h2 h3 h4 ih1 ih2 =>
      cases h0 with | func _ _ _ a0 c0 k1 k2 k3 k4 =>
      refine .func fn a c a' c' h1 h2 (fun i x' y' e1 e2 => ?_) (fun i x' y' e1 e2 => ?_)
      · have hi : i < a0.size := by rw [← k1]; exact (List.getElem?_eq_some_iff.1 e1).1
        exact ih1 i x' y' e1 e2 (k3 i x' a0[i] e1 (by simp [hi]))
      · have hi : i < c0.size := by rw [← k2]; exact (List.getElem?_eq_some_iff.1 e1).1
        exact ih2 i x' y' e1 e2 (k4 i x' c0[i] e1 (by simp [hi]))
    | nilFunc => exact .nilFunc
    | iface t v v' h ih =>
      cases h0 with | iface _ _ v0 hv0 => exact .iface t v v' (ih hv0)
    | nilIface => exact .nilIface
    | agg a a' h1 h2 ih =>
      cases h0 with | agg _ a0 k1 k2 =>
      refine .agg a a' h1 fun i x' y' e1 e2 => ?_
      have hi : i < a0.size := by rw [← k1]; exact (List.getElem?_eq_some_iff.1 e1).1
      exact ih i x' y' e1 e2 (k2 i x' a0[i] e1 (by simp [hi]))
    | tuple a a' h1 h2 ih =>
      cases h0 with | tuple _ a0 k1 k2 =>
      refine .tuple a a' h1 fun i x' y' e1 e2 => ?_
      have hi : i < a0.size := by rw [← k1]; exact (List.getElem?_eq_some_iff.1 e1).1
      exact ih i x' y' e1 e2 (k2 i x' a0[i] e1 (by simp [hi]))

end Go.Proofs.Abs
