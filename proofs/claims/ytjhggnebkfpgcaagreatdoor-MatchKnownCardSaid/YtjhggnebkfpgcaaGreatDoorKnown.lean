/- MatchKnown: the kernel runs the law in the abstract machine, whose soundness the texts E1 .. E25 prove. -/
import Derived.Test.YtjhggnebkfpgcaaGreatDoorRows
import Derived.Test.YtjhggnebkfpgcaaGreatDoorCards
import Derived.Test.YtjhggnebkfpgcaaGreatDoorTie
import Derived.Test.YtjhggnebkfpgcaaGreatDoorRun
import Derived.ProofKit
import Derived.Lay
import Derived.SevenTiedAt
import Derived.KernelRfl
namespace Go.Proofs.YtjhggnebkfpgcaaGreatDoor
open Go.ChangeShapes Go.WideShapes Go.ChangeAt Go.RowKit
open Go.Proofs.Abs

theorem Tryz.own : ownKnob Tryz.prog.godebug = none := by kernel_rfl

set_option maxRecDepth 100000 in
theorem known_lifted (os : Os) (started : os.Started) (H : Type) (enc : TypeId × Value → H) :
    ReturnsInHanded {} Tryz.checked os 12 .any (fun w args => (Rows.matchKnownSpec.pre enc Tryz.prog Tryz.f12 [] false w args ∧ laidMetH Tryz.prog Rows.matchKnownRow.laid w) ∧ sizedMet enc Tryz.prog Tryz.f12 (OpenSpec.ofChange Rows.matchKnownSpec) false w args)
      (Rows.matchKnownSpec.post enc Tryz.prog Tryz.f12 false true false false) := by
  refine returnsInHanded_of_change_and (C := Tryz.checked) (X := fun w _ => laidMetH Tryz.prog Rows.matchKnownRow.laid w) (fun _ _ _ hh h => h.of_heap hh) Tryz.own started (by kernel_rfl) Tryz.func12
    (ChangeSpec.witness_shaped (enc := enc) (C := Tryz.checked) (os := os) (X := fun w _ => laidMetH Tryz.prog Rows.matchKnownRow.laid w) false (World.laidAll Tryz.prog os Rows.matchKnownRow.laid) #[] 8 (World.laidAll_os _ _ _)
      (World.shaped_of_ZipB (by kernel_rfl) (by kernel_rfl)) (by kernel_rfl) (by kernel_rfl) (by kernel_rfl)
      (by rw [MakeChecks.laidMetH_plain _ _ _ (by kernel_rfl)]; exact laidMet_laidAll _ (by kernel_rfl) (by kernel_rfl))) ?_
  intro W base args ds gs before hval0 hW _ _ _ _
  have hW' := hW
  obtain ⟨p, q, hA0, hV, rfl, _, _⟩ := hW
  have hA : DataW.TrodAll enc Tryz.prog W 0 (fun _ => true) true Tryz.f12.params.toList args.toList ds p := hA0
  rw [Tryz.params12] at hA
  obtain ⟨rfl, rfl, rfl⟩ := trodAll_none hA
  obtain ⟨rfl, rfl⟩ := trodVars_none hV
  clear hA0 hval0 hA hV
  simp only [List.append_nil] at hW'
  refine (known_calls W).mono fun e W' ⟨he, hb⟩ => ?_
  subst he
  exact ⟨_, rfl, _, _, _, [], [], [], hW', trodAll_mk1 (shut_bool Tryz.underlying4 _), trodAll_mk0, rfl, hb.frame _, fun h => by cases h⟩

theorem known_holds : Rows.MatchKnownSaid :=
  OpenClaim.holds_of_wide 12 Tryz.f12 rfl rfl rfl rfl rfl rfl rfl ⟨rfl, rfl, rfl, rfl, rfl⟩ rfl rfl rfl rfl rfl (by kernel_rfl) Tryz.func12 (by kernel_rfl)
    (of_decide_eq_true (by kernel_rfl)) (by unfold Func.isWrapper; first | (rw [if_pos (by decide +kernel)]; kernel_rfl) | (rw [if_neg (by decide +kernel)]; exact ⟨rfl, rfl⟩))
    (fun os started H enc _ => known_lifted os started H enc)

theorem knownCard_holds : Rows.MatchKnownCardSaid :=
  Claim7.holds_tied_plain_at .later [] [.data, .pinned] true (true, "ff3b1766f6e6ac99f41e1628d4ff9bad5dc036d3bec380b43cc61596aae296f2") true
    known_holds (fun _ h => by cases h) (by kernel_rfl) (fun _ h => by cases h) matchKnown_row_tie rfl ⟨rfl, rfl⟩ (by kernel_rfl) rfl
    (fun f fn hf hfn => by
      obtain rfl : f = 12 := Option.some.inj ((show Tryz.prog.funcNamed "locksmith/locksmithlaw14.MatchKnown" = some 12 by kernel_rfl).symm.trans hf) |>.symm
      obtain rfl : fn = Tryz.f12 := (Option.some.inj (Tryz.func12.symm.trans hfn)).symm
      exact ⟨by kernel_rfl, fun j t ht => by
        rw [Tryz.params12] at ht
        simp at ht⟩)
    (by kernel_rfl)
#print axioms knownCard_holds
end Go.Proofs.YtjhggnebkfpgcaaGreatDoor
