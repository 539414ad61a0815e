/- AskKnown: the kernel runs the law in the abstract machine, whose soundness the texts E1 .. E25 prove. -/
import Derived.Test.YtnlllfokomenfaaGreatDoorRows
import Derived.Test.YtnlllfokomenfaaGreatDoorCards
import Derived.Test.YtnlllfokomenfaaGreatDoorTie
import Derived.Test.YtnlllfokomenfaaGreatDoorRunAskKnown
import Derived.Test.YtnlllfokomenfaaGreatDoorFactsAskKnown
import Derived.ProofKit
import Derived.Lay
import Derived.SevenTiedAt
import Derived.KernelRfl
namespace Go.Proofs.YtnlllfokomenfaaGreatDoor
open Go.ChangeShapes Go.WideShapes Go.ChangeAt Go.RowKit
open Go.Proofs.Abs

theorem Tryz.own : ownKnob Tryz.prog.godebug = none := by kernel_rfl

set_option maxRecDepth 100000 in
theorem known_lifted (os : Os) (started : os.Started) (H : Type) (enc : TypeId × Value → H) :
    ReturnsInHanded {} Tryz.checked os 7 .any (fun w args => (Rows.askKnownSpec.pre enc Tryz.prog Tryz.f7 [] false w args ∧ laidMetH Tryz.prog Rows.askKnownRow.laid w) ∧ sizedMet enc Tryz.prog Tryz.f7 (OpenSpec.ofChange Rows.askKnownSpec) false w args)
      (Rows.askKnownSpec.post enc Tryz.prog Tryz.f7 false true false false) := by
  refine returnsInHanded_of_change_and (C := Tryz.checked) (X := fun w _ => laidMetH Tryz.prog Rows.askKnownRow.laid w) (fun _ _ _ hh h => h.of_heap hh) Tryz.own started (by kernel_rfl) Tryz.func7
    (ChangeSpec.witness_shaped (enc := enc) (C := Tryz.checked) (os := os) (X := fun w _ => laidMetH Tryz.prog Rows.askKnownRow.laid w) false (World.laidAll Tryz.prog os Rows.askKnownRow.laid) #[] 8 (World.laidAll_os _ _ _)
      (World.shaped_of_ZipB (by kernel_rfl) (by kernel_rfl)) (by kernel_rfl) (by kernel_rfl) (by kernel_rfl)
      (by rw [MakeChecks.laidMetH_plain _ _ _ (by kernel_rfl)]; exact laidMet_laidAll _ (by kernel_rfl) (by kernel_rfl))) ?_
  intro W base args ds gs before hval0 hW _ _ _ _
  have hW' := hW
  obtain ⟨p, q, hA0, hV, rfl, _, _⟩ := hW
  have hA : DataW.TrodAll enc Tryz.prog W 0 (fun _ => true) true Tryz.f7.params.toList args.toList ds p := hA0
  rw [Tryz.params7] at hA
  obtain ⟨rfl, rfl, rfl⟩ := trodAll_none hA
  obtain ⟨rfl, rfl⟩ := trodVars_none hV
  clear hA0 hval0 hA hV
  simp only [List.append_nil] at hW'
  refine (known_calls W).mono fun e W' ⟨he, hb⟩ => ?_
  subst he
  exact ⟨_, rfl, _, _, _, [], [], [], hW', trodAll_mk1 (shut_bool Tryz.underlying4 _), trodAll_mk0, rfl, hb.frame _, fun h => by cases h⟩

theorem known_holds : Rows.AskKnownSaid :=
  OpenClaim.holds_of_wide 7 Tryz.f7 rfl rfl rfl rfl rfl rfl rfl ⟨rfl, rfl, rfl, rfl, rfl⟩ rfl rfl rfl rfl rfl q_name Tryz.func7 facts
    q_inst q_wrap
    (fun os started H enc _ => known_lifted os started H enc)

theorem knownCard_holds : Rows.AskKnownCardSaid :=
  Claim7.holds_tied_plain_at .later [] [.data, .data, .data, .data, .sentinel, .sentinel, .pinned] true (true, "2c19a41363eec87ab42284382d09c9cf32c0dd9d666397a2cc11aa5726042418") true
    known_holds (fun _ h => by cases h) q_wf (fun _ h => by cases h) askKnown_row_tie rfl ⟨rfl, rfl⟩ q_main rfl
    (fun f fn hf hfn => by
      obtain rfl : f = 7 := Option.some.inj (q_said.symm.trans hf) |>.symm
      obtain rfl : fn = Tryz.f7 := (Option.some.inj (Tryz.func7.symm.trans hfn)).symm
      exact ⟨q_looks, fun j t ht => by
        rw [Tryz.params7] at ht
        simp at ht⟩)
    q_goes
#print axioms knownCard_holds
end Go.Proofs.YtnlllfokomenfaaGreatDoor
