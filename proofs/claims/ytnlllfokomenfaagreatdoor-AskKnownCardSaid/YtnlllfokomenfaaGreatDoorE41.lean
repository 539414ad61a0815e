/- Calls that look at rows and answer plainly, known for closed arguments. -/
import Derived.Test.YtnlllfokomenfaaGreatDoorE40
namespace Go.Proofs.Abs
open Go

/-- A number, a truth value, a text. -/
def scal : AV → Bool
  | .int _ _ | .bool _ | .str _ => true
  | _ => false

/-- A call whose rows are read as slices. -/
def lookC (S : FuncId → List AV → Option AV) : Caller := fun f args _ h nx =>
  match mapL (freezeA 0 (cutH h (lookSet h 3 (idsAll args []))) 40) args with
  | some args' => match closedAll args', S f args' with
    | true, some r => match scal r with
      | true => some (r, h, nx, ⟨false, lookSet h 3 (idsAll args []), []⟩)
      | false => none
    | _, _ => none
  | none => none

section
variable {P : Program} {G : Glob}

theorem rep_scal {w w' : World} {I I' : Nat → Prop} {α α' : Nat → Option Nat} {r : AV} {u : Value} (h : scal r = true) (hr : Rep w I α r u) : Rep w' I' α' r u := by
  cases r with
  | int k n => cases hr; exact .int _ _
  | bool b => cases hr; exact .bool _
  | str s => cases hr with | str _ b hb => exact .str s b hb
  | _ => cases h

theorem lookC_ok {S : FuncId → List AV → Option AV} (hg : ∀ g l, G g = some l → closedAll l = true) (hS : ∀ f args r, closedAll args = true → S f args = some r → SemCall P G f args r) : CallOk P G (lookC S) ∧ CallLoc (lookC S) := by
  refine ⟨?_, ?_⟩
  · intro f args rid H nx v H' nx' ft hc w I α vs hr ha hrid hlt hf
    unfold lookC at hc
    split at hc
    · rename_i args' hfz
      split at hc
      · rename_i r hcl hsm
        split at hc
        · rename_i hsc
          simp only [Option.some.injEq, Prod.mk.injEq] at hc
          obtain ⟨rfl, rfl, rfl, rfl⟩ := hc
          have hcut := rel_cut hr (lookSet H 3 (idsAll args []))
          have h1 : RepL w (Frozen I α (cutH H (lookSet H 3 (idsAll args []))) 0) α args' vs.toList := (freeze_sound hcut 0 40).list hfz ha
          have h2 : Rel G w (Frozen I α (cutH H (lookSet H 3 (idsAll args []))) 0) (fun _ => none) [] :=
            { live := fun id blk h => by simp [hget] at h
              inj := fun id id' b h => absurd rfl h
              imm := fun b hb => by
                rcases hb with hb | ⟨id, _, _, h3⟩
                · exact hcut.imm b hb
                · exact hcut.dom id b h3
              dom := fun id b h => by cases h
              glob := fun g l hgl => by
                obtain ⟨h1, h2⟩ := hcut.glob g l hgl
                refine ⟨.inl h1, fun j x hx => ?_⟩
                obtain ⟨y, e1, e2⟩ := h2 j x hx
                exact ⟨y, e1, (rep_closed e2 (closed_at (hg g l hgl) hx)).mono (fun _ h => .inl h) (fun _ _ h => h) (fun _ _ _ => rfl) (fun _ _ _ => rfl)⟩ }
          have h3 := (hS f args' _ hcl hsm).out w _ (fun _ => none) [] rid nx vs h2 (repl_closed h1 hcl) rfl hlt (fun _ _ => rfl)
          refine out_mono h3 fun u w' ⟨⟨I', α', ev, _, hv, _⟩, _⟩ => ?_
          have eo : Ev w I α H w' I α H :=
            { os := ev.os
              I_mono := fun _ h => h
              α_mono := fun _ _ h => h
              size := ev.size
              frame := fun b hb _ => ev.frame b hb not_owned_nil
              shape := ev.shape
              Inew := fun _ h => .inl h
              own := fun _ h => .inr h }
          have hsame : ∀ b, b < w.heap.size → w'.heap[b]? = w.heap[b]? := fun b hb => ev.frame b hb not_owned_nil
          refine ⟨⟨I, α, eo, ⟨fun id blk h => ?_, hr.inj, fun b hb => Nat.lt_of_lt_of_le (hr.imm b hb) ev.size, fun id b hb => Nat.lt_of_lt_of_le (hr.dom id b hb) ev.size, glob_ev hr eo⟩, rep_scal hsc hv, fun id h => .inl h⟩, Nat.le_refl _⟩
          obtain ⟨b, k1, k2, k3⟩ := hr.live id blk h
          exact ⟨b, k1, k2, k3.ev hr eo (hsame b (hr.dom id b k1))⟩
        · cases hc
      · cases hc
    · cases hc
  · intro f args id h nx v h' nx' ft hc
    unfold lookC at hc
    split at hc
    · rename_i args' hfz
      split at hc
      · rename_i r hcl hsm
        split at hc
        · rename_i hsc
          simp only [Option.some.injEq, Prod.mk.injEq] at hc
          obtain ⟨rfl, rfl, rfl, rfl⟩ := hc
          refine .one rfl ⟨rfl, [], rfl, by simp, fun h2 nx2 hk => ?_⟩
          have hk' : ∀ i ∈ lookSet h 3 (idsAll args []), hget h2 i = hget h i := fun i hi => hk i (by simp [hi])
          have e1 := lookSet_congr 3 (idsAll args []) hk'
          have e2 := cutH_congr (lookSet h 3 (idsAll args [])) hk'
          unfold lookC
          rw [e1, e2]
          simp only [hfz, hcl, hsm, hsc]
          rfl
        · cases hc
      · cases hc
    · cases hc
 where
  out_mono {Q Q' : Value → World → Prop} {m : Result Next} (h : Out P Q m) (hq : ∀ v w, Q v w → Q' v w) : Out P Q' m := by
    cases m with
    | ok n w =>
      cases n with
      | value v => exact hq v w h
      | skip => exact hq _ w h
      | enter f args => exact Calls.mono h fun e w' ⟨v, h1, h2⟩ => ⟨v, h1, hq v w' h2⟩
      | _ => exact h.elim
    | _ => exact h.elim

/-- One caller for some functions, another one for the others. -/
def ifC (p : FuncId → Bool) (c1 c2 : Caller) : Caller := fun f => match p f with
  | true => c1 f
  | false => c2 f
theorem ifC_ok {p : FuncId → Bool} {c1 c2 : Caller} (h1 : CallOk P G c1 ∧ CallLoc c1) (h2 : CallOk P G c2 ∧ CallLoc c2) : CallOk P G (ifC p c1 c2) ∧ CallLoc (ifC p c1 c2) := by
  refine ⟨?_, ?_⟩
  · intro f args rid H nx v H' nx' ft hc
    cases hp : p f with
    | true =>
      have e : ifC p c1 c2 f = c1 f := by unfold ifC; rw [hp]
      rw [e] at hc
      exact h1.1 f args rid H nx v H' nx' ft hc
    | false =>
      have e : ifC p c1 c2 f = c2 f := by unfold ifC; rw [hp]
      rw [e] at hc
      exact h2.1 f args rid H nx v H' nx' ft hc
  · intro f args id h nx v h' nx' ft hc
    cases hp : p f with
    | true =>
      have e : ifC p c1 c2 f = c1 f := by unfold ifC; rw [hp]
      rw [e] at hc ⊢
      exact h1.2 f args id h nx v h' nx' ft hc
    | false =>
      have e : ifC p c1 c2 f = c2 f := by unfold ifC; rw [hp]
      rw [e] at hc ⊢
      exact h2.2 f args id h nx v h' nx' ft hc
end
end Go.Proofs.Abs
