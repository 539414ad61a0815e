import Derived.Test.YthikljbjnlibiaaGreatDoorRows
import Derived.Test.YthikljbjnlibiaaGreatDoorQ12
import Derived.ProofKit
import Derived.KernelRfl
import Derived.JoinedOf
import Derived.SevenTiedAt
namespace Go.Proofs.YthikljbjnlibiaaGreatDoor
open Go.ChangeShapes Go.WideShapes Go.ChangeAt Go.RowKit
theorem aQ {a b:Bool} (ha:a=true) (hb:b=true):(a&&b)=true:=by rw[ha,hb];rfl
set_option maxRecDepth 100000 in
theorem u9:(Rows.worldKnownRow.wf (OpenSpec.ofChange Rows.worldKnownSpec))=true:=by kernel_rfl
set_option maxRecDepth 100000 in
theorem va:(laidOutB Tryz.prog)=true:=by kernel_rfl
set_option maxRecDepth 100000 in
theorem vb:(mapsRowed Tryz.prog)=true:=by kernel_rfl
set_option maxRecDepth 100000 in
theorem vc:(Tryz.f8.params.all (Tryz.prog.readableRec ·))=true:=by kernel_rfl
set_option maxRecDepth 100000 in
theorem vd:(namedTie Tryz.prog Rows.worldKnownRow.named Rows.worldKnownSpec.vars)=true:=by kernel_rfl
set_option maxRecDepth 100000 in
theorem ve:((Rows.worldKnownRow.stops==[]))=true:=by kernel_rfl
set_option maxRecDepth 100000 in
theorem vf:((Tryz.prog.stops==[]))=true:=by kernel_rfl
set_option maxRecDepth 100000 in
theorem vg:((Rows.worldKnownRow.knobs==[]))=true:=by kernel_rfl
set_option maxRecDepth 100000 in
theorem vh:((Tryz.prog.stopKnobs==[]))=true:=by kernel_rfl
set_option maxRecDepth 100000 in
theorem vi:((Rows.worldKnownRow.inPlace==Tryz.prog.inPlace 8))=true:=by
  unfold Program.inPlace
  rw [clo8]
  kernel_rfl
set_option maxRecDepth 100000 in
theorem vj:((Rows.worldKnownRow.unfollowed==Tryz.prog.unfollowed 8))=true:=by
  unfold Program.unfollowed
  rw [clo8]
  kernel_rfl
set_option maxRecDepth 100000 in
theorem vk:((Rows.worldKnownRow.recurses==Tryz.prog.recurses 8))=true:=by
  unfold Program.recurses Program.unfollowed
  rw [clo8]
  kernel_rfl
set_option maxRecDepth 100000 in
theorem vl:((Rows.worldKnownRow.named==Tryz.prog.varsNamed 8))=true:=by
  rw [clo8named]
  kernel_rfl
set_option maxRecDepth 100000 in
theorem vm:((Rows.worldKnownRow.maps==(Tryz.f8.params.toList++Rows.worldKnownSpec.plain.varTypes Tryz.prog).any (Tryz.prog.mapsRec ·)))=true:=by kernel_rfl
set_option maxRecDepth 100000 in
theorem vn:((Rows.worldKnownRow.ifaces==(Tryz.f8.params.toList++Rows.worldKnownSpec.plain.varTypes Tryz.prog).any (Tryz.prog.ifacesRec ·)))=true:=by kernel_rfl
set_option maxRecDepth 100000 in
theorem vo:((Rows.worldKnownRow.mapsOut==Tryz.prog.mapsAmong Tryz.f8.resultTypes.toList))=true:=by kernel_rfl
set_option maxRecDepth 100000 in
theorem vp:((Rows.worldKnownRow.loops==(Tryz.f8.params.toList++Rows.worldKnownSpec.plain.varTypes Tryz.prog).any (Tryz.prog.loopsFrom ·)))=true:=by kernel_rfl
set_option maxRecDepth 100000 in
theorem vq:((Rows.worldKnownRow.wideKeys==(Tryz.f8.params.toList++Rows.worldKnownSpec.plain.varTypes Tryz.prog++Tryz.f8.resultTypes.toList).any (Tryz.prog.wideKeysFrom ·)))=true:=by kernel_rfl
set_option maxRecDepth 100000 in
theorem vr:(Rows.worldKnownSpec.vars.all (Tryz.prog.varReadable ·))=true:=by kernel_rfl
set_option maxRecDepth 100000 in
theorem vt:(Tryz.f8.resultTypes.all (fun t=>Tryz.prog.readableRec t&&decide (t<Tryz.prog.types.size)))=true:=by kernel_rfl
set_option maxRecDepth 100000 in
theorem vu:((Rows.worldKnownRow.ifacesOut==Tryz.f8.resultTypes.toList.any (Tryz.prog.ifacesRec ·)))=true:=by kernel_rfl
set_option maxRecDepth 100000 in
theorem vw:((Rows.worldKnownRow.loopsOut==Tryz.f8.resultTypes.toList.any (Tryz.prog.loopsFrom ·)))=true:=by kernel_rfl
set_option maxRecDepth 100000 in
theorem vx:((Rows.worldKnownRow.plainKeys==Tryz.prog.plainKeys))=true:=by kernel_rfl
set_option maxRecDepth 100000 in
theorem vy:(Rows.worldKnownRow.shortTexts.isNone)=true:=by kernel_rfl
set_option maxRecDepth 100000 in
theorem vz:(Tryz.prog.stopsHeard)=true:=by kernel_rfl
set_option maxRecDepth 100000 in
theorem vA:(Tryz.prog.mayEnter)=true:=by kernel_rfl
set_option maxRecDepth 100000 in
theorem vB:((Rows.worldKnownRow.lifted==Tryz.prog.liftsFinal))=true:=by kernel_rfl
set_option maxRecDepth 100000 in
theorem vC:((Tryz.prog.make==some Rows.worldKnownRow.make))=true:=by kernel_rfl
set_option maxRecDepth 100000 in
theorem vD:((Rows.worldKnownRow.kinds==(if Rows.worldKnownRow.domain.isEmpty then [] else Tryz.f8.params.toList.map fun t=>match Tryz.prog.underlying t with|some (.int k)=>some k|_=>none)))=true:=by kernel_rfl
set_option maxRecDepth 100000 in
theorem vE:((Rows.worldKnownRow.pinned==Rows.worldKnownRow.pinnedBy))=true:=by kernel_rfl
set_option maxRecDepth 100000 in
theorem vF:((Rows.worldKnownRow.veiled==(Tryz.f8.params.toList++Rows.worldKnownSpec.plain.varTypes Tryz.prog++Tryz.f8.resultTypes.toList).any (Tryz.prog.veiledRec ·)))=true:=by kernel_rfl
set_option maxRecDepth 100000 in
theorem vG:(Rows.worldKnownRow.veiledFits Tryz.prog Tryz.f8.params.toList (Tryz.f8.params.toList++Rows.worldKnownSpec.plain.varTypes Tryz.prog++Tryz.f8.resultTypes.toList))=true:=by kernel_rfl
set_option maxRecDepth 100000 in
theorem vH:Tryz.pinned.checked.prog.funcNamed Rows.worldKnownRow.func=some 8:=by kernel_rfl
set_option maxRecDepth 100000 in
theorem vI:Tryz.pinned.checked.prog.mainIs=some ((true, "0d4352c8d8a49b2bebd55c0a8131562b5690f94eb20bad2e805ea737fdefdfaa").1,(true, "0d4352c8d8a49b2bebd55c0a8131562b5690f94eb20bad2e805ea737fdefdfaa").2.toList):=by kernel_rfl
set_option maxRecDepth 100000 in
theorem vJ:Rows.worldKnownRow.wfByText (OpenSpec.ofChange Rows.worldKnownSpec)=true:=by kernel_rfl
set_option maxRecDepth 100000 in
theorem vK:true=Tryz.pinned.checked.prog.looks []:=by kernel_rfl
set_option maxRecDepth 100000 in
theorem q_said:Tryz.prog.funcNamed "locksmith/locksmithlaw28.WorldKnown" =some 8:=by kernel_rfl
set_option maxRecDepth 100000 in
theorem vL:Tryz.f8.isInstance Tryz.pinned.checked.prog Rows.worldKnownRow.origin Rows.worldKnownRow.targs:=of_decide_eq_true (by kernel_rfl)
set_option maxRecDepth 100000 in
theorem vM:Tryz.f8.isWrapper Tryz.pinned.checked.prog Rows.worldKnownRow.wrapper Rows.worldKnownRow.mainSum:=of_decide_eq_true (by kernel_rfl)
theorem vN {P:Program} (h:P.funcs.any Func.goes=false) (s:String):P.goesAt .entering s=false:=by
 have hg:∀f,P.goes f=false:=fun f=>by
  unfold Program.goes
  rw[h,Bool.and_false,Bool.or_false,List.any_eq_false]
  intro g _ hx
  rw[Option.any_eq_true] at hx
  obtain ⟨fn,hfn,hx⟩:=hx
  rw[Array.any_eq_false] at h
  obtain ⟨hlt,he⟩:=Array.getElem?_eq_some_iff.1 hfn
  exact h g hlt (he▸hx)
 unfold Program.goesAt Program.goesFrom
 cases P.funcNamed s with
 |none=>rfl
 |some f=>simp[hg f]
set_option maxRecDepth 100000 in
theorem vO:Tryz.pinned.checked.prog.funcs.any Func.goes=false:=by kernel_rfl
theorem vP:false=Rows.worldKnownRow.goesBy Tryz.pinned.checked.prog:=(vN vO _).symm
set_option maxRecDepth 100000 in
theorem facts:joinedFacts Tryz.prog 8 Tryz.f8 Rows.worldKnownSpec Rows.worldKnownRow=true:=by
 unfold joinedFacts
 exact (aQ (aQ (aQ (aQ (aQ (aQ (aQ (aQ (aQ (aQ (aQ (aQ (aQ (aQ (aQ (aQ (aQ (aQ (aQ (aQ (aQ (aQ (aQ (aQ (aQ (aQ (aQ (aQ (aQ (aQ (aQ u9 va) vb) vc) vd) ve) vf) vg) vh) vi) vj) vk) vl) vm) vn) vo) vp) vq) vr) vt) vu) vw) vx) vy) vz) vA) vB) vC) vD) vE) vF) vG)
end Go.Proofs.YthikljbjnlibiaaGreatDoor
