import Derived.Test.YtlljinebapfdaaaGreatDoorRows
import Derived.ProofKit
import Derived.KernelRfl
import Derived.JoinedOf
import Derived.SevenTiedAt
namespace Go.Proofs.YtlljinebapfdaaaGreatDoor
open Go.ChangeShapes Go.WideShapes Go.ChangeAt Go.RowKit
theorem ca {a b:Bool} (ha:a=true) (hb:b=true):(a&&b)=true:=by rw[ha,hb];rfl
set_option maxRecDepth 100000 in
theorem OK:(Rows.mintKeysRow.wf (OpenSpec.ofChange Rows.mintKeysSpec))=true:=by kernel_rfl
set_option maxRecDepth 100000 in
theorem OL:(laidOutB Tryz.prog)=true:=by kernel_rfl
set_option maxRecDepth 100000 in
theorem OM:(mapsRowed Tryz.prog)=true:=by kernel_rfl
set_option maxRecDepth 100000 in
theorem ON:(Tryz.f3.params.all (Tryz.prog.readableRec ·))=true:=by kernel_rfl
set_option maxRecDepth 100000 in
theorem OO:(namedTie Tryz.prog Rows.mintKeysRow.named Rows.mintKeysSpec.vars)=true:=by kernel_rfl
set_option maxRecDepth 100000 in
theorem OP:((Rows.mintKeysRow.stops==[]))=true:=by kernel_rfl
set_option maxRecDepth 100000 in
theorem OQ:((Tryz.prog.stops==[]))=true:=by kernel_rfl
set_option maxRecDepth 100000 in
theorem OR:((Rows.mintKeysRow.knobs==[]))=true:=by kernel_rfl
set_option maxRecDepth 100000 in
theorem OS:((Tryz.prog.stopKnobs==[]))=true:=by kernel_rfl
set_option maxRecDepth 100000 in
theorem OT:((Rows.mintKeysRow.inPlace==Tryz.prog.inPlace 3))=true:=by kernel_rfl
set_option maxRecDepth 100000 in
theorem OU:((Rows.mintKeysRow.unfollowed==Tryz.prog.unfollowed 3))=true:=by kernel_rfl
set_option maxRecDepth 100000 in
theorem OV:((Rows.mintKeysRow.recurses==Tryz.prog.recurses 3))=true:=by kernel_rfl
set_option maxRecDepth 100000 in
theorem OW:((Rows.mintKeysRow.named==Tryz.prog.varsNamed 3))=true:=by kernel_rfl
set_option maxRecDepth 100000 in
theorem OX:((Rows.mintKeysRow.maps==(Tryz.f3.params.toList++Rows.mintKeysSpec.plain.varTypes Tryz.prog).any (Tryz.prog.mapsRec ·)))=true:=by kernel_rfl
set_option maxRecDepth 100000 in
theorem OY:((Rows.mintKeysRow.ifaces==(Tryz.f3.params.toList++Rows.mintKeysSpec.plain.varTypes Tryz.prog).any (Tryz.prog.ifacesRec ·)))=true:=by kernel_rfl
set_option maxRecDepth 100000 in
theorem OZ:((Rows.mintKeysRow.mapsOut==Tryz.prog.mapsAmong Tryz.f3.resultTypes.toList))=true:=by kernel_rfl
set_option maxRecDepth 100000 in
theorem O0:((Rows.mintKeysRow.loops==(Tryz.f3.params.toList++Rows.mintKeysSpec.plain.varTypes Tryz.prog).any (Tryz.prog.loopsFrom ·)))=true:=by kernel_rfl
set_option maxRecDepth 100000 in
theorem O1:((Rows.mintKeysRow.wideKeys==(Tryz.f3.params.toList++Rows.mintKeysSpec.plain.varTypes Tryz.prog++Tryz.f3.resultTypes.toList).any (Tryz.prog.wideKeysFrom ·)))=true:=by kernel_rfl
set_option maxRecDepth 100000 in
theorem O2:(Rows.mintKeysSpec.vars.all (Tryz.prog.varReadable ·))=true:=by kernel_rfl
set_option maxRecDepth 100000 in
theorem O3:(Tryz.f3.resultTypes.all (fun t=>Tryz.prog.readableRec t&&decide (t<Tryz.prog.types.size)))=true:=by kernel_rfl
set_option maxRecDepth 100000 in
theorem O4:((Rows.mintKeysRow.ifacesOut==Tryz.f3.resultTypes.toList.any (Tryz.prog.ifacesRec ·)))=true:=by kernel_rfl
set_option maxRecDepth 100000 in
theorem O5:((Rows.mintKeysRow.loopsOut==Tryz.f3.resultTypes.toList.any (Tryz.prog.loopsFrom ·)))=true:=by kernel_rfl
set_option maxRecDepth 100000 in
theorem O6:((Rows.mintKeysRow.plainKeys==Tryz.prog.plainKeys))=true:=by kernel_rfl
set_option maxRecDepth 100000 in
theorem O7:(Rows.mintKeysRow.shortTexts.isNone)=true:=by kernel_rfl
set_option maxRecDepth 100000 in
theorem O8:(Tryz.prog.stopsHeard)=true:=by kernel_rfl
set_option maxRecDepth 100000 in
theorem O9:(Tryz.prog.mayEnter)=true:=by kernel_rfl
set_option maxRecDepth 100000 in
theorem Pa:((Rows.mintKeysRow.lifted==Tryz.prog.liftsFinal))=true:=by kernel_rfl
set_option maxRecDepth 100000 in
theorem Pb:((Tryz.prog.make==some Rows.mintKeysRow.make))=true:=by kernel_rfl
set_option maxRecDepth 100000 in
theorem Pc:((Rows.mintKeysRow.kinds==(if Rows.mintKeysRow.domain.isEmpty then [] else Tryz.f3.params.toList.map fun t=>match Tryz.prog.underlying t with|some (.int k)=>some k|_=>none)))=true:=by kernel_rfl
set_option maxRecDepth 100000 in
theorem Pd:((Rows.mintKeysRow.pinned==Rows.mintKeysRow.pinnedBy))=true:=by kernel_rfl
set_option maxRecDepth 100000 in
theorem Pe:((Rows.mintKeysRow.veiled==(Tryz.f3.params.toList++Rows.mintKeysSpec.plain.varTypes Tryz.prog++Tryz.f3.resultTypes.toList).any (Tryz.prog.veiledRec ·)))=true:=by kernel_rfl
set_option maxRecDepth 100000 in
theorem Pf:(Rows.mintKeysRow.veiledFits Tryz.prog Tryz.f3.params.toList (Tryz.f3.params.toList++Rows.mintKeysSpec.plain.varTypes Tryz.prog++Tryz.f3.resultTypes.toList))=true:=by kernel_rfl
set_option maxRecDepth 100000 in
theorem Pg:Tryz.pinned.checked.prog.funcNamed Rows.mintKeysRow.func=some 3:=by kernel_rfl
set_option maxRecDepth 100000 in
theorem Ph:Tryz.pinned.checked.prog.mainIs=some ((true, "ccbbd709ce53f2edf55136f2273781a233862d6b417ba2878ce9053e68469b34").1,(true, "ccbbd709ce53f2edf55136f2273781a233862d6b417ba2878ce9053e68469b34").2.toList):=by kernel_rfl
set_option maxRecDepth 100000 in
theorem Pi:Rows.mintKeysRow.wfByText (OpenSpec.ofChange Rows.mintKeysSpec)=true:=by kernel_rfl
set_option maxRecDepth 100000 in
theorem Pj:true=Tryz.pinned.checked.prog.looks []:=by kernel_rfl
set_option maxRecDepth 100000 in
theorem q_said:Tryz.prog.funcNamed "locksmith/locksmithlaw19.MintKeys" =some 3:=by kernel_rfl
set_option maxRecDepth 100000 in
theorem Pk:Tryz.f3.isInstance Tryz.pinned.checked.prog Rows.mintKeysRow.origin Rows.mintKeysRow.targs:=of_decide_eq_true (by kernel_rfl)
set_option maxRecDepth 100000 in
theorem Pl:Tryz.f3.isWrapper Tryz.pinned.checked.prog Rows.mintKeysRow.wrapper Rows.mintKeysRow.mainSum:=of_decide_eq_true (by kernel_rfl)
theorem Pm {P:Program} (h:P.funcs.any Func.goes=false) (s:String):P.goesAt .entering s=false:=by
 have hg:∀f,P.goes f=false:=fun f=>by
  unfold Program.goes
  rw[h,Bool.and_false,Bool.or_false,List.any_eq_false]
  intro g _ hx
  rw[Option.any_eq_true] at hx
  obtain ⟨fn,hfn,hx⟩:=hx
  rw[Array.any_eq_false] at h
  obtain ⟨hlt,he⟩:=Array.getElem?_eq_some_iff.1 hfn
  exact h g hlt (he▸hx)
 unfold Program.goesAt Program.goesFrom
 cases P.funcNamed s with
 |none=>rfl
 |some f=>simp[hg f]
set_option maxRecDepth 100000 in
theorem Pn:Tryz.pinned.checked.prog.funcs.any Func.goes=false:=by kernel_rfl
theorem Po:false=Rows.mintKeysRow.goesBy Tryz.pinned.checked.prog:=(Pm Pn _).symm
set_option maxRecDepth 100000 in
theorem facts:joinedFacts Tryz.prog 3 Tryz.f3 Rows.mintKeysSpec Rows.mintKeysRow=true:=by
 unfold joinedFacts
 exact (ca (ca (ca (ca (ca (ca (ca (ca (ca (ca (ca (ca (ca (ca (ca (ca (ca (ca (ca (ca (ca (ca (ca (ca (ca (ca (ca (ca (ca (ca (ca OK OL) OM) ON) OO) OP) OQ) OR) OS) OT) OU) OV) OW) OX) OY) OZ) O0) O1) O2) O3) O4) O5) O6) O7) O8) O9) Pa) Pb) Pc) Pd) Pe) Pf)
end Go.Proofs.YtlljinebapfdaaaGreatDoor
