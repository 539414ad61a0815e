/- MintDraws, for every input: what is drawn is the draw from a place on, and zeros behind it, as the document says it. The program and the document's answer are followed in the abstract machine, whatever the bytes and the numbers; the chapter's example is run. -/
import Derived.Test.YtecabdjbhlmilaaGreatDoorRows
import Derived.Test.YtecabdjbhlmilaaGreatDoorCards
import Derived.Test.YtecabdjbhlmilaaGreatDoorMyTie
import Derived.Test.YtecabdjbhlmilaaGreatDoorDraws2
import Derived.Test.YtecabdjbhlmilaaGreatDoorKnMintDraws
import Derived.Test.YtecabdjbhlmilaaGreatDoorFactsMintDraws
import Derived.Test.YtecabdjbhlmilaaGreatDoorG5
import Derived.ProofKit
import Derived.Lay
import Derived.SevenTiedAt
import Derived.KernelRfl
namespace Go.Proofs.YtecabdjbhlmilaaGreatDoor
open Go.ChangeShapes Go.WideShapes Go.ChangeAt Go.RowKit
open Go.Proofs.Abs

theorem Tryz.own : ownKnob Tryz.prog.godebug = none := by kernel_rfl
theorem Tryz.out : laidOutB Tryz.prog = true := by kernel_rfl
set_option maxRecDepth 20000 in
theorem draws_sem {f : Option Bool} {l : List UInt8} (n p : Int) (hf : f = none → l = []) (hl : l.length ≤ 9223372036854775807) : SemCall Tryz.prog (fun _ => none) 3 [rowV f (toBytes l), I n, I p] (.bool true) :=
  law_sem n p example_sem hf hl

set_option maxRecDepth 100000 in
theorem law_lifted (os : Os) (started : os.Started) (H : Type) (enc : TypeId × Value → H) :
    ReturnsInHanded {} Tryz.checked os 3 .any (fun w args => (Rows.mintDrawsSpec.pre enc Tryz.prog Tryz.f3 [] false w args ∧ laidMetH Tryz.prog Rows.mintDrawsRow.laid w) ∧ sizedMet enc Tryz.prog Tryz.f3 (OpenSpec.ofChange Rows.mintDrawsSpec) false w args)
      (Rows.mintDrawsSpec.post enc Tryz.prog Tryz.f3 false true false false) := by
  refine returnsInHanded_of_change_and (C := Tryz.checked) (X := fun w _ => laidMetH Tryz.prog Rows.mintDrawsRow.laid w) (fun _ _ _ hh h => h.of_heap hh) Tryz.own started (by kernel_rfl) Tryz.func3
    (ChangeSpec.witness_shaped (enc := enc) (C := Tryz.checked) (os := os) (X := fun w _ => laidMetH Tryz.prog Rows.mintDrawsRow.laid w) false (World.laidAll Tryz.prog os Rows.mintDrawsRow.laid) #[.slice none 0 0, .int .i64 0, .int .i64 0] 8 (World.laidAll_os _ _ _)
      (World.shaped_of_ZipB (by kernel_rfl) (by kernel_rfl)) (by kernel_rfl) (by kernel_rfl) (by kernel_rfl)
      (by rw [MakeChecks.laidMetH_plain _ _ _ (by kernel_rfl)]; exact laidMet_laidAll _ (by kernel_rfl) (by kernel_rfl))) ?_
  intro W base args ds gs before hval0 hW _ _ _ _
  have hval : ∀ (j : Nat) t v, Tryz.f3.params[j]? = some t → args[j]? = some v → Value.okWide Tryz.prog W .any base t v := hval0
  have hW' := hW
  obtain ⟨p, q, hA0, hV, rfl, _, _⟩ := hW
  have hA : DataW.TrodAll enc Tryz.prog W 0 (fun _ => true) true Tryz.f3.params.toList args.toList ds p := hA0
  rw [Tryz.params3] at hA hval
  obtain ⟨v0, w0, d0, y0, p0, q0, ha0, rfl, rfl, h0, hA0'⟩ := trodAll_cons hA
  obtain ⟨v1, w1, d1, y1, p1, q1, ha1, rfl, rfl, h1, hA1⟩ := trodAll_cons hA0'
  subst ha1
  obtain ⟨v2, w2, d2, y2, p2, q2, ha2, rfl, rfl, h2, hA2⟩ := trodAll_cons hA1
  subst ha2
  obtain ⟨rfl, rfl, rfl⟩ := trodAll_nil hA2
  obtain rfl : args = #[v0, v1, v2] := by cases args; simp_all
  obtain ⟨rfl, rfl⟩ := trodVars_none hV
  obtain ⟨f, l, hf, hl, r0⟩ : ∃ (f : Option Bool) (l : List UInt8), (f = none → l = []) ∧ l.length ≤ 9223372036854775807 ∧ Rep W (fun b => b < W.heap.size) (fun _ => none) (rowV f (toBytes l)) v0 := by
    rcases Abs.open_slice Tryz.underlying22 (reads_byte Tryz.underlying5 (by kernel_rfl)) (hval 0 22 v0 rfl rfl) h0 with rfl | ⟨ess, hr, hp, hl⟩
    · exact ⟨none, [], fun _ => rfl, by simp, .nilsl⟩
    · obtain ⟨l, e1, e2⟩ := bytes_of hp
      refine ⟨some false, l, fun h => (by cases h), by rw [e2]; exact hl, ?_⟩
      rw [e1] at hr
      exact hr
  obtain ⟨n1, rfl, _, _⟩ := Abs.open_int Tryz.underlying3 (hval 1 3 v1 rfl rfl) h1
  obtain ⟨n2, rfl, _, _⟩ := Abs.open_int Tryz.underlying3 (hval 2 3 v2 rfl rfl) h2
  clear hA0 hval0
  simp only [List.append_nil] at hW'
  have hlt : ∀ x ∈ p0 ++ (p1 ++ (p2)), x.block < W.heap.size := fun x hx => hW'.lt x (by simpa using hx)
  have hrel : Rel (fun _ => none) W (fun b => b < W.heap.size) (fun _ => none) [] := rel_tables fun g l h => by cases h
  have hcalls := (draws_sem n1 n2 hf hl).calls (w := W) (vs := #[v0, .int .i64 n1, .int .i64 n2]) Tryz.func3 rfl (by kernel_rfl) hrel (.cons r0 (.cons (.int _ _) (.cons (.int _ _) .nil)))
  refine hcalls.mono fun e W' ⟨he, hb⟩ => ?_
  subst he
  exact ⟨_, rfl, _, _, _, [], _, [], hW', trodAll_mk1 (shut_bool Tryz.underlying4 _), ⟨p0, _, Below.trod Tryz.out (by kernel_rfl) (of_decide_eq_true (by kernel_rfl)) h0 hb (fun x hx => hlt x (by simp [hx])), ⟨p1, _, Below.trod Tryz.out (by kernel_rfl) (of_decide_eq_true (by kernel_rfl)) h1 hb (fun x hx => hlt x (by simp [hx])), ⟨p2, _, Below.trod Tryz.out (by kernel_rfl) (of_decide_eq_true (by kernel_rfl)) h2 hb (fun x hx => hlt x (by simp [hx])), rfl, rfl⟩, rfl⟩, rfl⟩, rfl, hb.frame _, fun h => by cases h⟩

theorem law_holds : Rows.MintDrawsSaid :=
  OpenClaim.holds_of_wide 3 Tryz.f3 rfl rfl rfl rfl rfl rfl rfl ⟨rfl, rfl, rfl, rfl, rfl⟩ rfl rfl rfl rfl rfl q_name Tryz.func3 facts
    q_inst q_wrap
    (fun os started H enc _ => law_lifted os started H enc)

theorem lawCard_holds : Rows.MintDrawsCardSaid :=
  Claim7.holds_tied_plain_at .later [] [.pinned, .data, .data, .data, .data, .sentinel, .sentinel] true (true, "633d59e08bad545cc045897dfc938365f0e995131afb5a918b9267ab608c3b13") true
    law_holds (fun _ h => by cases h) q_wf (fun _ h => by cases h) mintDraws_row_tie rfl ⟨rfl, rfl⟩ q_main rfl
    (fun f fn hf hfn => by
      obtain rfl : f = 3 := Option.some.inj (q_said.symm.trans hf) |>.symm
      obtain rfl : fn = Tryz.f3 := (Option.some.inj (Tryz.func3.symm.trans hfn)).symm
      exact ⟨q_looks, fun j t ht => by
        rw [Tryz.params3] at ht
        have hm : t ∈ [22, 3, 3] := by simpa using Array.mem_of_getElem? ht
        have hall : ([22, 3, 3].all fun u => !Tryz.prog.wantsStandIn u) = true := by kernel_rfl
        exact (show Tryz.prog.wantsStandIn t = false by simpa using List.all_eq_true.1 hall t hm)⟩)
    q_goes
#print axioms lawCard_holds
end Go.Proofs.YtecabdjbhlmilaaGreatDoor
