import Derived.Test.YtjmnheinkchlfaaGreatDoorRows
import Derived.ProofKit
import Derived.KernelRfl
import Derived.JoinedOf
import Derived.SevenTiedAt
namespace Go.Proofs.YtjmnheinkchlfaaGreatDoor
open Go.ChangeShapes Go.WideShapes Go.ChangeAt Go.RowKit
theorem bC {a b:Bool} (ha:a=true) (hb:b=true):(a&&b)=true:=by rw[ha,hb];rfl
set_option maxRecDepth 100000 in
theorem GL:(Rows.askOffersRow.wf (OpenSpec.ofChange Rows.askOffersSpec))=true:=by kernel_rfl
set_option maxRecDepth 100000 in
theorem GM:(laidOutB Tryz.prog)=true:=by kernel_rfl
set_option maxRecDepth 100000 in
theorem GN:(mapsRowed Tryz.prog)=true:=by kernel_rfl
set_option maxRecDepth 100000 in
theorem GO:(Tryz.f3.params.all (Tryz.prog.readableRec ·))=true:=by kernel_rfl
set_option maxRecDepth 100000 in
theorem GP:(namedTie Tryz.prog Rows.askOffersRow.named Rows.askOffersSpec.vars)=true:=by kernel_rfl
set_option maxRecDepth 100000 in
theorem GQ:((Rows.askOffersRow.stops==[]))=true:=by kernel_rfl
set_option maxRecDepth 100000 in
theorem GR:((Tryz.prog.stops==[]))=true:=by kernel_rfl
set_option maxRecDepth 100000 in
theorem GS:((Rows.askOffersRow.knobs==[]))=true:=by kernel_rfl
set_option maxRecDepth 100000 in
theorem GT:((Tryz.prog.stopKnobs==[]))=true:=by kernel_rfl
set_option maxRecDepth 100000 in
theorem GU:((Rows.askOffersRow.inPlace==Tryz.prog.inPlace 3))=true:=by kernel_rfl
set_option maxRecDepth 100000 in
theorem GV:((Rows.askOffersRow.unfollowed==Tryz.prog.unfollowed 3))=true:=by kernel_rfl
set_option maxRecDepth 100000 in
theorem GW:((Rows.askOffersRow.recurses==Tryz.prog.recurses 3))=true:=by kernel_rfl
set_option maxRecDepth 100000 in
theorem GX:((Rows.askOffersRow.named==Tryz.prog.varsNamed 3))=true:=by kernel_rfl
set_option maxRecDepth 100000 in
theorem GY:((Rows.askOffersRow.maps==(Tryz.f3.params.toList++Rows.askOffersSpec.plain.varTypes Tryz.prog).any (Tryz.prog.mapsRec ·)))=true:=by kernel_rfl
set_option maxRecDepth 100000 in
theorem GZ:((Rows.askOffersRow.ifaces==(Tryz.f3.params.toList++Rows.askOffersSpec.plain.varTypes Tryz.prog).any (Tryz.prog.ifacesRec ·)))=true:=by kernel_rfl
set_option maxRecDepth 100000 in
theorem G0:((Rows.askOffersRow.mapsOut==Tryz.prog.mapsAmong Tryz.f3.resultTypes.toList))=true:=by kernel_rfl
set_option maxRecDepth 100000 in
theorem G1:((Rows.askOffersRow.loops==(Tryz.f3.params.toList++Rows.askOffersSpec.plain.varTypes Tryz.prog).any (Tryz.prog.loopsFrom ·)))=true:=by kernel_rfl
set_option maxRecDepth 100000 in
theorem G2:((Rows.askOffersRow.wideKeys==(Tryz.f3.params.toList++Rows.askOffersSpec.plain.varTypes Tryz.prog++Tryz.f3.resultTypes.toList).any (Tryz.prog.wideKeysFrom ·)))=true:=by kernel_rfl
set_option maxRecDepth 100000 in
theorem G3:(Rows.askOffersSpec.vars.all (Tryz.prog.varReadable ·))=true:=by kernel_rfl
set_option maxRecDepth 100000 in
theorem G4:(Tryz.f3.resultTypes.all (fun t=>Tryz.prog.readableRec t&&decide (t<Tryz.prog.types.size)))=true:=by kernel_rfl
set_option maxRecDepth 100000 in
theorem G5:((Rows.askOffersRow.ifacesOut==Tryz.f3.resultTypes.toList.any (Tryz.prog.ifacesRec ·)))=true:=by kernel_rfl
set_option maxRecDepth 100000 in
theorem G6:((Rows.askOffersRow.loopsOut==Tryz.f3.resultTypes.toList.any (Tryz.prog.loopsFrom ·)))=true:=by kernel_rfl
set_option maxRecDepth 100000 in
theorem G7:((Rows.askOffersRow.plainKeys==Tryz.prog.plainKeys))=true:=by kernel_rfl
set_option maxRecDepth 100000 in
theorem G8:(Rows.askOffersRow.shortTexts.isNone)=true:=by kernel_rfl
set_option maxRecDepth 100000 in
theorem G9:(Tryz.prog.stopsHeard)=true:=by kernel_rfl
set_option maxRecDepth 100000 in
theorem Ha:(Tryz.prog.mayEnter)=true:=by kernel_rfl
set_option maxRecDepth 100000 in
theorem Hb:((Rows.askOffersRow.lifted==Tryz.prog.liftsFinal))=true:=by kernel_rfl
set_option maxRecDepth 100000 in
theorem Hc:((Tryz.prog.make==some Rows.askOffersRow.make))=true:=by kernel_rfl
set_option maxRecDepth 100000 in
theorem He:((Rows.askOffersRow.kinds==(if Rows.askOffersRow.domain.isEmpty then [] else Tryz.f3.params.toList.map fun t=>match Tryz.prog.underlying t with|some (.int k)=>some k|_=>none)))=true:=by kernel_rfl
set_option maxRecDepth 100000 in
theorem Hf:((Rows.askOffersRow.pinned==Rows.askOffersRow.pinnedBy))=true:=by kernel_rfl
set_option maxRecDepth 100000 in
theorem Hg:((Rows.askOffersRow.veiled==(Tryz.f3.params.toList++Rows.askOffersSpec.plain.varTypes Tryz.prog++Tryz.f3.resultTypes.toList).any (Tryz.prog.veiledRec ·)))=true:=by kernel_rfl
set_option maxRecDepth 100000 in
theorem Hh:(Rows.askOffersRow.veiledFits Tryz.prog Tryz.f3.params.toList (Tryz.f3.params.toList++Rows.askOffersSpec.plain.varTypes Tryz.prog++Tryz.f3.resultTypes.toList))=true:=by kernel_rfl
set_option maxRecDepth 100000 in
theorem Hi:Tryz.pinned.checked.prog.funcNamed Rows.askOffersRow.func=some 3:=by kernel_rfl
set_option maxRecDepth 100000 in
theorem Hj:Tryz.pinned.checked.prog.mainIs=some ((true, "a1c2afaed8affc00e41cf23877aac270adc1db1d82b5bbb717b555b98614d11f").1,(true, "a1c2afaed8affc00e41cf23877aac270adc1db1d82b5bbb717b555b98614d11f").2.toList):=by kernel_rfl
set_option maxRecDepth 100000 in
theorem Hk:Rows.askOffersRow.wfByText (OpenSpec.ofChange Rows.askOffersSpec)=true:=by kernel_rfl
set_option maxRecDepth 100000 in
theorem Hl:true=Tryz.pinned.checked.prog.looks []:=by kernel_rfl
set_option maxRecDepth 100000 in
theorem q_said:Tryz.prog.funcNamed "locksmith/locksmithlaw25.AskOffers" =some 3:=by kernel_rfl
set_option maxRecDepth 100000 in
theorem Hm:Tryz.f3.isInstance Tryz.pinned.checked.prog Rows.askOffersRow.origin Rows.askOffersRow.targs:=of_decide_eq_true (by kernel_rfl)
set_option maxRecDepth 100000 in
theorem Hn:Tryz.f3.isWrapper Tryz.pinned.checked.prog Rows.askOffersRow.wrapper Rows.askOffersRow.mainSum:=of_decide_eq_true (by kernel_rfl)
theorem Ho {P:Program} (h:P.funcs.any Func.goes=false) (s:String):P.goesAt .entering s=false:=by
 have hg:∀f,P.goes f=false:=fun f=>by
  unfold Program.goes
  rw[h,Bool.and_false,Bool.or_false,List.any_eq_false]
  intro g _ hx
  rw[Option.any_eq_true] at hx
  obtain ⟨fn,hfn,hx⟩:=hx
  rw[Array.any_eq_false] at h
  obtain ⟨hlt,he⟩:=Array.getElem?_eq_some_iff.1 hfn
  exact h g hlt (he▸hx)
 unfold Program.goesAt Program.goesFrom
 cases P.funcNamed s with
 |none=>rfl
 |some f=>simp[hg f]
set_option maxRecDepth 100000 in
theorem Hp:Tryz.pinned.checked.prog.funcs.any Func.goes=false:=by kernel_rfl
theorem Hq:false=Rows.askOffersRow.goesBy Tryz.pinned.checked.prog:=(Ho Hp _).symm
set_option maxRecDepth 100000 in
theorem facts:joinedFacts Tryz.prog 3 Tryz.f3 Rows.askOffersSpec Rows.askOffersRow=true:=by
 unfold joinedFacts
 exact (bC (bC (bC (bC (bC (bC (bC (bC (bC (bC (bC (bC (bC (bC (bC (bC (bC (bC (bC (bC (bC (bC (bC (bC (bC (bC (bC (bC (bC (bC (bC GL GM) GN) GO) GP) GQ) GR) GS) GT) GU) GV) GW) GX) GY) GZ) G0) G1) G2) G3) G4) G5) G6) G7) G8) G9) Ha) Hb) Hc) He) Hf) Hg) Hh)
end Go.Proofs.YtjmnheinkchlfaaGreatDoor
