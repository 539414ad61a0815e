/- A law without arguments. -/
import Derived.Test.YtnlllfokomenfaaGreatDoorE24
import Derived.Below
namespace Go.Proofs.Abs
open Go
noncomputable section

def isTrue : Option (AV × Heap × Nat) → Bool
  | some (.bool b, _) => b
  | _ => false

/-- Does a function without arguments answer true? -/
def runTrue (P : Program) (O : Opts) (n : Nat) (f : FuncId) : Bool := isTrue (runBody P O (callN P O n) f [] [] 1)

end

theorem rel_start {w : World} : Rel (fun _ => none) w (fun b => b < w.heap.size) (fun _ => none) [] where
  live id blk h := by simp [hget] at h
  inj id id' b h := absurd rfl h
  imm b h := h
  dom id b h := by simp at h
  glob g l h := by simp at h

theorem calls_true {P : Program} {O : Opts} {n : Nat} {f : FuncId} {w : World} (hm : P.follows .mixedOrders = true) (hsum : ∀ f args, O.summ f args = none) (hcx : O.cx = fun _ _ _ _ _ => none := by rfl) (hg : O.glob = fun _ => none) (h : runTrue P O n f = true) :
    Calls P f #[] w fun e w' => e = .returned (.bool true) ∧ RowKit.Below w.heap.size w w' := by
  unfold runTrue at h
  generalize hr : runBody P O (callN P O n) f [] [] 1 = r at h
  unfold isTrue at h
  split at h
  · rename_i b hp
    obtain ⟨H', nx'⟩ := hp
    subst h
    obtain ⟨h1, h2⟩ := calls_sound (P := P) (O := O) hm (fun f args v h => by rw [hsum] at h; cases h) (by intro g l hl; rw [hg] at hl; cases hl) (by rw [hcx]; exact noCall_ok') n
    obtain ⟨_, h3⟩ := body_sound (w := w) (vs := #[]) hm h1 h2 hr (by rw [hg]; exact rel_start) .nil (fun _ _ => rfl)
    refine Calls.mono h3 ?_
    rintro e w' ⟨u, rfl, ⟨⟨I', α', ev, _, hv, _⟩, _⟩⟩
    cases hv
    exact ⟨rfl, ev.os.1, ev.os.2.1, ev.os.2.2, ev.size, fun k hk => ev.frame k hk not_owned_nil⟩
  · cases h

end Go.Proofs.Abs
