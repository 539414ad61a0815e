/- MintKnown: the kernel runs the law in the abstract machine, whose soundness the texts E1 .. E25 prove. -/
import Derived.Test.YtnlllfokomenfaaGreatDoorRows
import Derived.Test.YtnlllfokomenfaaGreatDoorCards
import Derived.Test.YtnlllfokomenfaaGreatDoorTie
import Derived.Test.YtnlllfokomenfaaGreatDoorRunMintKnown
import Derived.Test.YtnlllfokomenfaaGreatDoorFactsMintKnown
import Derived.ProofKit
import Derived.Lay
import Derived.SevenTiedAt
import Derived.KernelRfl
namespace Go.Proofs.YtnlllfokomenfaaGreatDoor
open Go.ChangeShapes Go.WideShapes Go.ChangeAt Go.RowKit
open Go.Proofs.Abs

theorem Tryz.own : ownKnob Tryz.prog.godebug = none := by kernel_rfl

set_option maxRecDepth 100000 in
theorem known_lifted (os : Os) (started : os.Started) (H : Type) (enc : TypeId × Value → H) :
    ReturnsInHanded {} Tryz.checked os 9 .any (fun w args => (Rows.mintKnownSpec.pre enc Tryz.prog Tryz.f9 [] false w args ∧ laidMetH Tryz.prog Rows.mintKnownRow.laid w) ∧ sizedMet enc Tryz.prog Tryz.f9 (OpenSpec.ofChange Rows.mintKnownSpec) false w args)
      (Rows.mintKnownSpec.post enc Tryz.prog Tryz.f9 false true false false) := by
  refine returnsInHanded_of_change_and (C := Tryz.checked) (X := fun w _ => laidMetH Tryz.prog Rows.mintKnownRow.laid w) (fun _ _ _ hh h => h.of_heap hh) Tryz.own started (by kernel_rfl) Tryz.func9
    (ChangeSpec.witness_shaped (enc := enc) (C := Tryz.checked) (os := os) (X := fun w _ => laidMetH Tryz.prog Rows.mintKnownRow.laid w) false (World.laidAll Tryz.prog os Rows.mintKnownRow.laid) #[] 8 (World.laidAll_os _ _ _)
      (World.shaped_of_ZipB (by kernel_rfl) (by kernel_rfl)) (by kernel_rfl) (by kernel_rfl) (by kernel_rfl)
      (by rw [MakeChecks.laidMetH_plain _ _ _ (by kernel_rfl)]; exact laidMet_laidAll _ (by kernel_rfl) (by kernel_rfl))) ?_
  intro W base args ds gs before hval0 hW _ _ _ _
  have hW' := hW
  obtain ⟨p, q, hA0, hV, rfl, _, _⟩ := hW
  have hA : DataW.TrodAll enc Tryz.prog W 0 (fun _ => true) true Tryz.f9.params.toList args.toList ds p := hA0
  rw [Tryz.params9] at hA
  obtain ⟨rfl, rfl, rfl⟩ := trodAll_none hA
  obtain ⟨rfl, rfl⟩ := trodVars_none hV
  clear hA0 hval0 hA hV
  simp only [List.append_nil] at hW'
  refine (known_calls W).mono fun e W' ⟨he, hb⟩ => ?_
  subst he
  exact ⟨_, rfl, _, _, _, [], [], [], hW', trodAll_mk1 (shut_bool Tryz.underlying4 _), trodAll_mk0, rfl, hb.frame _, fun h => by cases h⟩

theorem known_holds : Rows.MintKnownSaid :=
  OpenClaim.holds_of_wide 9 Tryz.f9 rfl rfl rfl rfl rfl rfl rfl ⟨rfl, rfl, rfl, rfl, rfl⟩ rfl rfl rfl rfl rfl q_name Tryz.func9 facts
    q_inst q_wrap
    (fun os started H enc _ => known_lifted os started H enc)

theorem knownCard_holds : Rows.MintKnownCardSaid :=
  Claim7.holds_tied_plain_at .later [] [.data, .data, .data, .data, .sentinel, .sentinel, .pinned] true (true, "2c19a41363eec87ab42284382d09c9cf32c0dd9d666397a2cc11aa5726042418") true
    known_holds (fun _ h => by cases h) q_wf (fun _ h => by cases h) mintKnown_row_tie rfl ⟨rfl, rfl⟩ q_main rfl
    (fun f fn hf hfn => by
      obtain rfl : f = 9 := Option.some.inj (q_said.symm.trans hf) |>.symm
      obtain rfl : fn = Tryz.f9 := (Option.some.inj (Tryz.func9.symm.trans hfn)).symm
      exact ⟨q_looks, fun j t ht => by
        rw [Tryz.params9] at ht
        simp at ht⟩)
    q_goes
#print axioms knownCard_holds
end Go.Proofs.YtnlllfokomenfaaGreatDoor
