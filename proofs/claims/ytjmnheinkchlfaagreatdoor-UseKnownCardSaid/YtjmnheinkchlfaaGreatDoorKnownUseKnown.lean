import Derived.Test.YtjmnheinkchlfaaGreatDoorRows
import Derived.Test.YtjmnheinkchlfaaGreatDoorCards
import Derived.Test.YtjmnheinkchlfaaGreatDoorQ1
import Derived.Test.YtjmnheinkchlfaaGreatDoorQ14
import Derived.Test.YtjmnheinkchlfaaGreatDoorQ15
import Derived.ProofKit
import Derived.Lay
import Derived.SevenTiedAt
import Derived.KernelRfl
namespace Go.Proofs.YtjmnheinkchlfaaGreatDoor
open Go.ChangeShapes Go.WideShapes Go.ChangeAt Go.RowKit
open Go.Proofs.Abs
theorem Tryz.own:ownKnob Tryz.prog.godebug=none:=by kernel_rfl
set_option maxRecDepth 100000 in
theorem yB (os:Os) (started:os.Started) (H:Type) (enc:TypeId × Value→H):
  ReturnsInHanded {} Tryz.checked os 4 .any (fun w args=>(Rows.useKnownSpec.pre enc Tryz.prog Tryz.f4 [] false w args∧laidMetH Tryz.prog Rows.useKnownRow.laid w)∧sizedMet enc Tryz.prog Tryz.f4 (OpenSpec.ofChange Rows.useKnownSpec) false w args)
   (Rows.useKnownSpec.post enc Tryz.prog Tryz.f4 false true false false):=by
 refine returnsInHanded_of_change_and (C:=Tryz.checked) (X:=fun w _=>laidMetH Tryz.prog Rows.useKnownRow.laid w) (fun _ _ _ hh h=>h.of_heap hh) Tryz.own started (by kernel_rfl) Tryz.func4
  (ChangeSpec.witness_shaped (enc:=enc) (C:=Tryz.checked) (os:=os) (X:=fun w _=>laidMetH Tryz.prog Rows.useKnownRow.laid w) false (World.laidAll Tryz.prog os Rows.useKnownRow.laid) #[] 8 (World.laidAll_os _ _ _)
   (World.shaped_of_ZipB (by kernel_rfl) (by kernel_rfl)) (by kernel_rfl) (by kernel_rfl) (by kernel_rfl)
   (by rw[MakeChecks.laidMetH_plain _ _ _ (by kernel_rfl)];exact laidMet_laidAll _ (by kernel_rfl) (by kernel_rfl))) ?_
 intro W base args ds gs before hval0 hW _ _ _ _
 have hW':=hW
 obtain ⟨p,q,hA0,hV,rfl,_,_⟩:=hW
 have hA:DataW.TrodAll enc Tryz.prog W 0 (fun _=>true) true Tryz.f4.params.toList args.toList ds p:=hA0
 rw[Tryz.params4] at hA
 obtain ⟨rfl,rfl,rfl⟩:=trodAll_none hA
 obtain ⟨rfl,rfl⟩:=trodVars_none hV
 clear hA0 hval0 hA hV
 simp only[List.append_nil] at hW'
 refine (xS W).mono fun e W' ⟨he,hb⟩=> ?_
 subst he
 exact ⟨_,rfl,_,_,_,[],[],[],hW',trodAll_mk1 (shut_bool Tryz.underlying4 _),trodAll_mk0,rfl,hb.frame _,fun h=>by cases h⟩
theorem yC:Rows.UseKnownSaid:=
 OpenClaim.holds_of_wide 4 Tryz.f4 rfl rfl rfl rfl rfl rfl rfl ⟨rfl,rfl,rfl,rfl,rfl⟩ rfl rfl rfl rfl rfl yr Tryz.func4 facts
  yw yx
  (fun os started H enc _=>yB os started H enc)
theorem knownCard_holds:Rows.UseKnownCardSaid:=
 Claim7.holds_tied_plain_at .later [] [.pinned,.data,.sentinel,.sentinel,.data,.data,.data] true (true, "a1c2afaed8affc00e41cf23877aac270adc1db1d82b5bbb717b555b98614d11f") true
  yC (fun _ h=>by cases h) yu (fun _ h=>by cases h) useKnown_row_tie rfl ⟨rfl,rfl⟩ yt rfl
  (fun f fn hf hfn=>by
   obtain rfl:f=4:=Option.some.inj (q_said.symm.trans hf)|>.symm
   obtain rfl:fn=Tryz.f4:=(Option.some.inj (Tryz.func4.symm.trans hfn)).symm
   exact ⟨yv,fun j t ht=>by
    rw[Tryz.params4] at ht
    simp at ht⟩)
  yA
#print axioms knownCard_holds
end Go.Proofs.YtjmnheinkchlfaaGreatDoor
