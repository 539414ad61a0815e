import Derived.Test.YtmnlofhodbnenaaGreatDoorRows
import Derived.ProofKit
import Derived.KernelRfl
import Derived.JoinedOf
import Derived.SevenTiedAt
namespace Go.Proofs.YtmnlofhodbnenaaGreatDoor
open Go.ChangeShapes Go.WideShapes Go.ChangeAt Go.RowKit
theorem cz {a b:Bool} (ha:a=true) (hb:b=true):(a&&b)=true:=by rw[ha,hb];rfl
set_option maxRecDepth 100000 in
theorem Mh:(Rows.mintTemplatesRow.wf (OpenSpec.ofChange Rows.mintTemplatesSpec))=true:=by kernel_rfl
set_option maxRecDepth 100000 in
theorem Mi:(laidOutB Tryz.prog)=true:=by kernel_rfl
set_option maxRecDepth 100000 in
theorem Mj:(mapsRowed Tryz.prog)=true:=by kernel_rfl
set_option maxRecDepth 100000 in
theorem Mk:(Tryz.f3.params.all (Tryz.prog.readableRec ·))=true:=by kernel_rfl
set_option maxRecDepth 100000 in
theorem Ml:(namedTie Tryz.prog Rows.mintTemplatesRow.named Rows.mintTemplatesSpec.vars)=true:=by kernel_rfl
set_option maxRecDepth 100000 in
theorem Mm:((Rows.mintTemplatesRow.stops==[]))=true:=by kernel_rfl
set_option maxRecDepth 100000 in
theorem Mn:((Tryz.prog.stops==[]))=true:=by kernel_rfl
set_option maxRecDepth 100000 in
theorem Mo:((Rows.mintTemplatesRow.knobs==[]))=true:=by kernel_rfl
set_option maxRecDepth 100000 in
theorem Mp:((Tryz.prog.stopKnobs==[]))=true:=by kernel_rfl
set_option maxRecDepth 100000 in
theorem Mq:((Rows.mintTemplatesRow.inPlace==Tryz.prog.inPlace 3))=true:=by kernel_rfl
set_option maxRecDepth 100000 in
theorem Mr:((Rows.mintTemplatesRow.unfollowed==Tryz.prog.unfollowed 3))=true:=by kernel_rfl
set_option maxRecDepth 100000 in
theorem Ms:((Rows.mintTemplatesRow.recurses==Tryz.prog.recurses 3))=true:=by kernel_rfl
set_option maxRecDepth 100000 in
theorem Mt:((Rows.mintTemplatesRow.named==Tryz.prog.varsNamed 3))=true:=by kernel_rfl
set_option maxRecDepth 100000 in
theorem Mu:((Rows.mintTemplatesRow.maps==(Tryz.f3.params.toList++Rows.mintTemplatesSpec.plain.varTypes Tryz.prog).any (Tryz.prog.mapsRec ·)))=true:=by kernel_rfl
set_option maxRecDepth 100000 in
theorem Mv:((Rows.mintTemplatesRow.ifaces==(Tryz.f3.params.toList++Rows.mintTemplatesSpec.plain.varTypes Tryz.prog).any (Tryz.prog.ifacesRec ·)))=true:=by kernel_rfl
set_option maxRecDepth 100000 in
theorem Mw:((Rows.mintTemplatesRow.mapsOut==Tryz.prog.mapsAmong Tryz.f3.resultTypes.toList))=true:=by kernel_rfl
set_option maxRecDepth 100000 in
theorem Mx:((Rows.mintTemplatesRow.loops==(Tryz.f3.params.toList++Rows.mintTemplatesSpec.plain.varTypes Tryz.prog).any (Tryz.prog.loopsFrom ·)))=true:=by kernel_rfl
set_option maxRecDepth 100000 in
theorem My:((Rows.mintTemplatesRow.wideKeys==(Tryz.f3.params.toList++Rows.mintTemplatesSpec.plain.varTypes Tryz.prog++Tryz.f3.resultTypes.toList).any (Tryz.prog.wideKeysFrom ·)))=true:=by kernel_rfl
set_option maxRecDepth 100000 in
theorem Mz:(Rows.mintTemplatesSpec.vars.all (Tryz.prog.varReadable ·))=true:=by kernel_rfl
set_option maxRecDepth 100000 in
theorem MA:(Tryz.f3.resultTypes.all (fun t=>Tryz.prog.readableRec t&&decide (t<Tryz.prog.types.size)))=true:=by kernel_rfl
set_option maxRecDepth 100000 in
theorem MB:((Rows.mintTemplatesRow.ifacesOut==Tryz.f3.resultTypes.toList.any (Tryz.prog.ifacesRec ·)))=true:=by kernel_rfl
set_option maxRecDepth 100000 in
theorem MC:((Rows.mintTemplatesRow.loopsOut==Tryz.f3.resultTypes.toList.any (Tryz.prog.loopsFrom ·)))=true:=by kernel_rfl
set_option maxRecDepth 100000 in
theorem MD:((Rows.mintTemplatesRow.plainKeys==Tryz.prog.plainKeys))=true:=by kernel_rfl
set_option maxRecDepth 100000 in
theorem ME:(Rows.mintTemplatesRow.shortTexts.isNone)=true:=by kernel_rfl
set_option maxRecDepth 100000 in
theorem MF:(Tryz.prog.stopsHeard)=true:=by kernel_rfl
set_option maxRecDepth 100000 in
theorem MG:(Tryz.prog.mayEnter)=true:=by kernel_rfl
set_option maxRecDepth 100000 in
theorem MH:((Rows.mintTemplatesRow.lifted==Tryz.prog.liftsFinal))=true:=by kernel_rfl
set_option maxRecDepth 100000 in
theorem MI:((Tryz.prog.make==some Rows.mintTemplatesRow.make))=true:=by kernel_rfl
set_option maxRecDepth 100000 in
theorem MJ:((Rows.mintTemplatesRow.kinds==(if Rows.mintTemplatesRow.domain.isEmpty then [] else Tryz.f3.params.toList.map fun t=>match Tryz.prog.underlying t with|some (.int k)=>some k|_=>none)))=true:=by kernel_rfl
set_option maxRecDepth 100000 in
theorem MK:((Rows.mintTemplatesRow.pinned==Rows.mintTemplatesRow.pinnedBy))=true:=by kernel_rfl
set_option maxRecDepth 100000 in
theorem ML:((Rows.mintTemplatesRow.veiled==(Tryz.f3.params.toList++Rows.mintTemplatesSpec.plain.varTypes Tryz.prog++Tryz.f3.resultTypes.toList).any (Tryz.prog.veiledRec ·)))=true:=by kernel_rfl
set_option maxRecDepth 100000 in
theorem MM:(Rows.mintTemplatesRow.veiledFits Tryz.prog Tryz.f3.params.toList (Tryz.f3.params.toList++Rows.mintTemplatesSpec.plain.varTypes Tryz.prog++Tryz.f3.resultTypes.toList))=true:=by kernel_rfl
set_option maxRecDepth 100000 in
theorem MN:Tryz.pinned.checked.prog.funcNamed Rows.mintTemplatesRow.func=some 3:=by kernel_rfl
set_option maxRecDepth 100000 in
theorem MO:Tryz.pinned.checked.prog.mainIs=some ((true, "96d738fb3c53713bcb6fee9bb7f55b35d6304982392a171226f4b332cd3158d8").1,(true, "96d738fb3c53713bcb6fee9bb7f55b35d6304982392a171226f4b332cd3158d8").2.toList):=by kernel_rfl
set_option maxRecDepth 100000 in
theorem MP:Rows.mintTemplatesRow.wfByText (OpenSpec.ofChange Rows.mintTemplatesSpec)=true:=by kernel_rfl
set_option maxRecDepth 100000 in
theorem MQ:true=Tryz.pinned.checked.prog.looks []:=by kernel_rfl
set_option maxRecDepth 100000 in
theorem q_said:Tryz.prog.funcNamed "locksmith/locksmithlaw19.MintTemplates" =some 3:=by kernel_rfl
set_option maxRecDepth 100000 in
theorem MR:Tryz.f3.isInstance Tryz.pinned.checked.prog Rows.mintTemplatesRow.origin Rows.mintTemplatesRow.targs:=of_decide_eq_true (by kernel_rfl)
set_option maxRecDepth 100000 in
theorem MS:Tryz.f3.isWrapper Tryz.pinned.checked.prog Rows.mintTemplatesRow.wrapper Rows.mintTemplatesRow.mainSum:=of_decide_eq_true (by kernel_rfl)
theorem MT {P:Program} (h:P.funcs.any Func.goes=false) (s:String):P.goesAt .entering s=false:=by
 have hg:∀f,P.goes f=false:=fun f=>by
  unfold Program.goes
  rw[h,Bool.and_false,Bool.or_false,List.any_eq_false]
  intro g _ hx
  rw[Option.any_eq_true] at hx
  obtain ⟨fn,hfn,hx⟩:=hx
  rw[Array.any_eq_false] at h
  obtain ⟨hlt,he⟩:=Array.getElem?_eq_some_iff.1 hfn
  exact h g hlt (he▸hx)
 unfold Program.goesAt Program.goesFrom
 cases P.funcNamed s with
 |none=>rfl
 |some f=>simp[hg f]
set_option maxRecDepth 100000 in
theorem MU:Tryz.pinned.checked.prog.funcs.any Func.goes=false:=by kernel_rfl
theorem MV:false=Rows.mintTemplatesRow.goesBy Tryz.pinned.checked.prog:=(MT MU _).symm
set_option maxRecDepth 100000 in
theorem facts:joinedFacts Tryz.prog 3 Tryz.f3 Rows.mintTemplatesSpec Rows.mintTemplatesRow=true:=by
 unfold joinedFacts
 exact (cz (cz (cz (cz (cz (cz (cz (cz (cz (cz (cz (cz (cz (cz (cz (cz (cz (cz (cz (cz (cz (cz (cz (cz (cz (cz (cz (cz (cz (cz (cz Mh Mi) Mj) Mk) Ml) Mm) Mn) Mo) Mp) Mq) Mr) Ms) Mt) Mu) Mv) Mw) Mx) My) Mz) MA) MB) MC) MD) ME) MF) MG) MH) MI) MJ) MK) ML) MM)
end Go.Proofs.YtmnlofhodbnenaaGreatDoor
