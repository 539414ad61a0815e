/- AttrsIndexed, for every input: the law's run in the abstract machine, whatever the values, and that machine's soundness. -/
import Derived.Test.YtjhggnebkfpgcaaGreatDoorRows
import Derived.Test.YtjhggnebkfpgcaaGreatDoorCards
import Derived.Test.YtjhggnebkfpgcaaGreatDoorTie
import Derived.Test.YtjhggnebkfpgcaaGreatDoorLawIdx
import Derived.Test.YtjhggnebkfpgcaaGreatDoorRws
import Derived.Test.YtjhggnebkfpgcaaGreatDoorG5
import Derived.ProofKit
import Derived.Lay
import Derived.SevenTiedAt
import Derived.KernelRfl
namespace Go.Proofs.YtjhggnebkfpgcaaGreatDoor
open Go.ChangeShapes Go.WideShapes Go.ChangeAt Go.RowKit
open Go.Proofs.Abs
theorem Tryz.own : ownKnob Tryz.prog.godebug = none := by kernel_rfl
theorem Tryz.out : laidOutB Tryz.prog = true := by kernel_rfl
theorem names_rel {W : World} (_ : laidMetH Tryz.prog Rows.attrsIndexedRow.laid W) : Rel gl W (fun b => b < W.heap.size) (fun _ => none) [] := by
 exact rel_tables fun g l hgl => by cases hgl
set_option maxRecDepth 100000 in
theorem law_lifted (os : Os) (started : os.Started) (H : Type) (enc : TypeId × Value → H) :
  ReturnsInHanded {} Tryz.checked os 9 .any (fun w args => (Rows.attrsIndexedSpec.pre enc Tryz.prog Tryz.f9 [] false w args ∧ laidMetH Tryz.prog Rows.attrsIndexedRow.laid w) ∧ sizedMet enc Tryz.prog Tryz.f9 (OpenSpec.ofChange Rows.attrsIndexedSpec) false w args)
   (Rows.attrsIndexedSpec.post enc Tryz.prog Tryz.f9 false true false false) := by
 refine returnsInHanded_of_change_and (C := Tryz.checked) (X := fun w _ => laidMetH Tryz.prog Rows.attrsIndexedRow.laid w) (fun _ _ _ hh h => h.of_heap hh) Tryz.own started (by kernel_rfl) Tryz.func9
  (ChangeSpec.witness_shaped (enc := enc) (C := Tryz.checked) (os := os) (X := fun w _ => laidMetH Tryz.prog Rows.attrsIndexedRow.laid w) false (World.laidAll Tryz.prog os Rows.attrsIndexedRow.laid) #[.agg #[.int .i64 0, .int .i64 0, .int .i64 0, .int .i64 0], .slice none 0 0] 8 (World.laidAll_os _ _ _)
   (World.shaped_of_ZipB (by kernel_rfl) (by kernel_rfl)) (by kernel_rfl) (by kernel_rfl) (by kernel_rfl)
   (by rw [MakeChecks.laidMetH_plain _ _ _ (by kernel_rfl)]; exact laidMet_laidAll _ (by kernel_rfl) (by kernel_rfl))) ?_
 intro W base args ds gs before hval0 hW k1 k2 k3 k4
 have hX : laidMetH Tryz.prog Rows.attrsIndexedRow.laid W := by first | exact k1 | exact k2 | exact k3 | exact k4
 have hval : ∀ (j : Nat) t v, Tryz.f9.params[j]? = some t → args[j]? = some v → Value.okWide Tryz.prog W .any base t v := hval0
 have hW' := hW
 obtain ⟨p, q, hA0, hV, rfl, _, _⟩ := hW
 have hA : DataW.TrodAll enc Tryz.prog W 0 (fun _ => true) true Tryz.f9.params.toList args.toList ds p := hA0
 rw [Tryz.params9] at hA hval
 obtain ⟨v0, w0, d0, y0, p0, q0, ha0, rfl, rfl, h0, hA0⟩ := trodAll_cons hA
 obtain ⟨v1, w1, d1, y1, p1, q1, ha1, rfl, rfl, h1, hA1⟩ := trodAll_cons hA0
 subst ha1
 obtain ⟨rfl, rfl, rfl⟩ := trodAll_nil hA1
 obtain rfl : args = #[v0, v1] := by cases args; simp_all
 obtain ⟨rfl, rfl⟩ := trodVars_none hV
 obtain ⟨k0, a0, b0, c0, rfl⟩ := Abs.open_four Tryz.underlying42 ⟨rfl, rfl⟩ ⟨rfl, rfl⟩ ⟨rfl, rfl⟩ ⟨rfl, rfl⟩ Tryz.underlying3 (by kernel_rfl) (by kernel_rfl) (hval 0 42 v0 rfl rfl) h0
 obtain ⟨l1, g1, r1⟩ := open_rws Tryz.underlying22 Tryz.underlying42 ⟨rfl, rfl⟩ ⟨rfl, rfl⟩ ⟨rfl, rfl⟩ ⟨rfl, rfl⟩ Tryz.underlying3 (by kernel_rfl) (by kernel_rfl) (hval 1 22 v1 rfl rfl) h1
 clear hA0 hval0
 simp only [List.append_nil] at hW'
 have hlt : ∀ x ∈ p0 ++ (p1), x.block < W.heap.size := fun x hx => hW'.lt x (by simpa using hx)
 have hcalls := (law_sem ⟨k0, a0, b0, c0⟩ l1).calls (w := W) (vs := #[.agg #[.int .i64 k0, .int .i64 a0, .int .i64 b0, .int .i64 c0], v1]) Tryz.func9 rfl (by kernel_rfl) (names_rel hX) (.cons (Rep.agg_iff.2 ⟨_, rfl, .cons (.int _ _) (.cons (.int _ _) (.cons (.int _ _) (.cons (.int _ _) .nil)))⟩) (.cons r1 .nil))
 refine hcalls.mono fun e W' ⟨he, hb⟩ => ?_
 subst he
 exact ⟨_, rfl, _, _, _, [], _, [], hW', trodAll_mk1 (shut_bool Tryz.underlying4 _), ⟨p0, _, Below.trod Tryz.out (by kernel_rfl) (of_decide_eq_true (by kernel_rfl)) h0 hb (fun x hx => hlt x (by simp [hx])), ⟨p1, _, Below.trod Tryz.out (by kernel_rfl) (of_decide_eq_true (by kernel_rfl)) h1 hb (fun x hx => hlt x (by simp [hx])), rfl, rfl⟩, rfl⟩, rfl, hb.frame _, fun h => by cases h⟩
theorem law_holds : Rows.AttrsIndexedSaid :=
 OpenClaim.holds_of_wide 9 Tryz.f9 rfl rfl rfl rfl rfl rfl rfl ⟨rfl, rfl, rfl, rfl, rfl⟩ rfl rfl rfl rfl rfl (by kernel_rfl) Tryz.func9 (by kernel_rfl)
  (of_decide_eq_true (by kernel_rfl)) (by unfold Func.isWrapper; first | (rw [if_pos (by decide +kernel)]; kernel_rfl) | (rw [if_neg (by decide +kernel)]; exact ⟨rfl, rfl⟩))
  (fun os started H enc _ => law_lifted os started H enc)
theorem lawCard_holds : Rows.AttrsIndexedCardSaid :=
 Claim7.holds_tied_plain_at .later [] [.data, .pinned] true (true, "ff3b1766f6e6ac99f41e1628d4ff9bad5dc036d3bec380b43cc61596aae296f2") true
  law_holds (fun _ h => by cases h) (by kernel_rfl) (fun _ h => by cases h) attrsIndexed_row_tie rfl ⟨rfl, rfl⟩ (by kernel_rfl) rfl
  (fun f fn hf hfn => by
   obtain rfl : f = 9 := Option.some.inj ((show Tryz.prog.funcNamed "locksmith/locksmithlaw13.AttrsIndexed" = some 9 by kernel_rfl).symm.trans hf) |>.symm
   obtain rfl : fn = Tryz.f9 := (Option.some.inj (Tryz.func9.symm.trans hfn)).symm
   exact ⟨by kernel_rfl, fun j t ht => by
    rw [Tryz.params9] at ht
    have hm : t ∈ [42, 22] := by simpa using Array.mem_of_getElem? ht
    have hall : ([42, 22].all fun u => !Tryz.prog.wantsStandIn u) = true := by kernel_rfl
    exact (show Tryz.prog.wantsStandIn t = false by simpa using List.all_eq_true.1 hall t hm)⟩)
  (by kernel_rfl)
#print axioms lawCard_holds
end Go.Proofs.YtjhggnebkfpgcaaGreatDoor
