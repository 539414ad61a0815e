import Derived.Test.YtjmnheinkchlfaaGreatDoorRows
import Derived.Test.YtjmnheinkchlfaaGreatDoorCards
import Derived.Test.YtjmnheinkchlfaaGreatDoorQ1
import Derived.Test.YtjmnheinkchlfaaGreatDoorQ6
import Derived.Test.YtjmnheinkchlfaaGreatDoorQ7
import Derived.Test.YtjmnheinkchlfaaGreatDoorQ8
import Derived.Test.YtjmnheinkchlfaaGreatDoorQ9
import Derived.Test.YtjmnheinkchlfaaGreatDoorG5
import Derived.ProofKit
import Derived.Lay
import Derived.SevenTiedAt
import Derived.KernelRfl
namespace Go.Proofs.YtjmnheinkchlfaaGreatDoor
open Go.ChangeShapes Go.WideShapes Go.ChangeAt Go.RowKit
open Go.Proofs.Abs
theorem Tryz.own:ownKnob Tryz.prog.godebug=none:=by kernel_rfl
theorem Tryz.out:laidOutB Tryz.prog=true:=by kernel_rfl
theorem Hr {W:World} (_:laidMetH Tryz.prog Rows.askOffersRow.laid W):Rel gl W (fun b=>b<W.heap.size) (fun _=>none) []:=by
 exact Bc fun g l hgl=>by cases hgl
set_option maxRecDepth 100000 in
theorem Hs (os:Os) (started:os.Started) (H:Type) (enc:TypeId × Value→H):
  ReturnsInHanded {} Tryz.checked os 3 .any (fun w args=>(Rows.askOffersSpec.pre enc Tryz.prog Tryz.f3 [] false w args∧laidMetH Tryz.prog Rows.askOffersRow.laid w)∧sizedMet enc Tryz.prog Tryz.f3 (OpenSpec.ofChange Rows.askOffersSpec) false w args)
   (Rows.askOffersSpec.post enc Tryz.prog Tryz.f3 false true false false):=by
 refine returnsInHanded_of_change_and (C:=Tryz.checked) (X:=fun w _=>laidMetH Tryz.prog Rows.askOffersRow.laid w) (fun _ _ _ hh h=>h.of_heap hh) Tryz.own started (by kernel_rfl) Tryz.func3
  (ChangeSpec.witness_shaped (enc:=enc) (C:=Tryz.checked) (os:=os) (X:=fun w _=>laidMetH Tryz.prog Rows.askOffersRow.laid w) false (World.laidAll Tryz.prog os Rows.askOffersRow.laid) #[.slice none 0 0,.slice none 0 0,.bool false] 8 (World.laidAll_os _ _ _)
   (World.shaped_of_ZipB (by kernel_rfl) (by kernel_rfl)) (by kernel_rfl) (by kernel_rfl) (by kernel_rfl)
   (by rw[MakeChecks.laidMetH_plain _ _ _ (by kernel_rfl)];exact laidMet_laidAll _ (by kernel_rfl) (by kernel_rfl))) ?_
 intro W base args ds gs before hval0 hW k1 k2 k3 k4
 have hX:laidMetH Tryz.prog Rows.askOffersRow.laid W:=by first|exact k1|exact k2|exact k3|exact k4
 have hval:∀ (j:Nat) t v,Tryz.f3.params[j]? =some t→args[j]? =some v→Value.okWide Tryz.prog W .any base t v:=hval0
 have hW':=hW
 obtain ⟨p,q,hA0,hV,rfl,_,_⟩:=hW
 have hA:DataW.TrodAll enc Tryz.prog W 0 (fun _=>true) true Tryz.f3.params.toList args.toList ds p:=hA0
 rw[Tryz.params3] at hA hval
 obtain ⟨v0,w0,d0,y0,p0,q0,ha0,rfl,rfl,h0,hA0⟩:=trodAll_cons hA
 obtain ⟨v1,w1,d1,y1,p1,q1,ha1,rfl,rfl,h1,hA1⟩:=trodAll_cons hA0
 subst ha1
 obtain ⟨v2,w2,d2,y2,p2,q2,ha2,rfl,rfl,h2,hA2⟩:=trodAll_cons hA1
 subst ha2
 obtain ⟨rfl,rfl,rfl⟩:=trodAll_nil hA2
 obtain rfl:args= #[v0,v1,v2]:=by cases args;simp_all
 obtain ⟨rfl,rfl⟩:=trodVars_none hV
 obtain ⟨l0,g0,r0⟩:=zA Tryz.underlying22 Tryz.underlying36 ⟨rfl,rfl⟩ ⟨rfl,rfl⟩ ⟨rfl,rfl⟩ ⟨rfl,rfl⟩ Tryz.underlying3 (by kernel_rfl) (by kernel_rfl) (hval 0 22 v0 rfl rfl) h0
 obtain ⟨l1,g1,r1⟩:=zA Tryz.underlying22 Tryz.underlying36 ⟨rfl,rfl⟩ ⟨rfl,rfl⟩ ⟨rfl,rfl⟩ ⟨rfl,rfl⟩ Tryz.underlying3 (by kernel_rfl) (by kernel_rfl) (hval 1 22 v1 rfl rfl) h1
 obtain ⟨t2,rfl⟩:=Abs.open_bool Tryz.underlying4 (hval 2 4 v2 rfl rfl) h2
 clear hA0 hval0
 simp only[List.append_nil] at hW'
 have hlt:∀x∈p0++(p1++(p2)),x.block<W.heap.size:=fun x hx=>hW'.lt x (by simpa using hx)
 have hcalls:=(GK l0 l1 t2 Gm Gx).calls (w:=W) (vs:= #[v0,v1,.bool t2]) Tryz.func3 rfl (by kernel_rfl) (Hr hX) (.cons r0 (.cons r1 (.cons (.bool _) .nil)))
 refine hcalls.mono fun e W' ⟨he,hb⟩=> ?_
 subst he
 exact ⟨_,rfl,_,_,_,[],_,[],hW',trodAll_mk1 (shut_bool Tryz.underlying4 _),⟨p0,_,Below.trod Tryz.out (by kernel_rfl) (of_decide_eq_true (by kernel_rfl)) h0 hb (fun x hx=>hlt x (by simp[hx])),⟨p1,_,Below.trod Tryz.out (by kernel_rfl) (of_decide_eq_true (by kernel_rfl)) h1 hb (fun x hx=>hlt x (by simp[hx])),⟨p2,_,Below.trod Tryz.out (by kernel_rfl) (of_decide_eq_true (by kernel_rfl)) h2 hb (fun x hx=>hlt x (by simp[hx])),rfl,rfl⟩,rfl⟩,rfl⟩,rfl,hb.frame _,fun h=>by cases h⟩
theorem Ht:Rows.AskOffersSaid:=
 OpenClaim.holds_of_wide 3 Tryz.f3 rfl rfl rfl rfl rfl rfl rfl ⟨rfl,rfl,rfl,rfl,rfl⟩ rfl rfl rfl rfl rfl Hi Tryz.func3 facts
  Hm Hn
  (fun os started H enc _=>Hs os started H enc)
theorem lawCard_holds:Rows.AskOffersCardSaid:=
 Claim7.holds_tied_plain_at .later [] [.pinned,.data,.sentinel,.sentinel,.data,.data,.data] true (true, "a1c2afaed8affc00e41cf23877aac270adc1db1d82b5bbb717b555b98614d11f") true
  Ht (fun _ h=>by cases h) Hk (fun _ h=>by cases h) askOffers_row_tie rfl ⟨rfl,rfl⟩ Hj rfl
  (fun f fn hf hfn=>by
   obtain rfl:f=3:=Option.some.inj (q_said.symm.trans hf)|>.symm
   obtain rfl:fn=Tryz.f3:=(Option.some.inj (Tryz.func3.symm.trans hfn)).symm
   exact ⟨Hl,fun j t ht=>by
    rw[Tryz.params3] at ht
    have hm:t∈[22,22,4]:=by simpa using Array.mem_of_getElem? ht
    have hall:([22,22,4].all fun u=> !Tryz.prog.wantsStandIn u)=true:=by kernel_rfl
    exact (show Tryz.prog.wantsStandIn t=false by simpa using List.all_eq_true.1 hall t hm)⟩)
  Hq
#print axioms lawCard_holds
end Go.Proofs.YtjmnheinkchlfaaGreatDoor
