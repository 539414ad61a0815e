import Derived.Test.YtjmnheinkchlfaaGreatDoorRows
import Derived.ProofKit
import Derived.KernelRfl
import Derived.JoinedOf
import Derived.SevenTiedAt
namespace Go.Proofs.YtjmnheinkchlfaaGreatDoor
open Go.ChangeShapes Go.WideShapes Go.ChangeAt Go.RowKit
theorem aT {a b:Bool} (ha:a=true) (hb:b=true):(a&&b)=true:=by rw[ha,hb];rfl
set_option maxRecDepth 100000 in
theorem xT:(Rows.useKnownRow.wf (OpenSpec.ofChange Rows.useKnownSpec))=true:=by kernel_rfl
set_option maxRecDepth 100000 in
theorem xU:(laidOutB Tryz.prog)=true:=by kernel_rfl
set_option maxRecDepth 100000 in
theorem xV:(mapsRowed Tryz.prog)=true:=by kernel_rfl
set_option maxRecDepth 100000 in
theorem xW:(Tryz.f4.params.all (Tryz.prog.readableRec ·))=true:=by kernel_rfl
set_option maxRecDepth 100000 in
theorem xX:(namedTie Tryz.prog Rows.useKnownRow.named Rows.useKnownSpec.vars)=true:=by kernel_rfl
set_option maxRecDepth 100000 in
theorem xY:((Rows.useKnownRow.stops==[]))=true:=by kernel_rfl
set_option maxRecDepth 100000 in
theorem xZ:((Tryz.prog.stops==[]))=true:=by kernel_rfl
set_option maxRecDepth 100000 in
theorem x1:((Rows.useKnownRow.knobs==[]))=true:=by kernel_rfl
set_option maxRecDepth 100000 in
theorem x2:((Tryz.prog.stopKnobs==[]))=true:=by kernel_rfl
set_option maxRecDepth 100000 in
theorem x3:((Rows.useKnownRow.inPlace==Tryz.prog.inPlace 4))=true:=by kernel_rfl
set_option maxRecDepth 100000 in
theorem x4:((Rows.useKnownRow.unfollowed==Tryz.prog.unfollowed 4))=true:=by kernel_rfl
set_option maxRecDepth 100000 in
theorem x5:((Rows.useKnownRow.recurses==Tryz.prog.recurses 4))=true:=by kernel_rfl
set_option maxRecDepth 100000 in
theorem x6:((Rows.useKnownRow.named==Tryz.prog.varsNamed 4))=true:=by kernel_rfl
set_option maxRecDepth 100000 in
theorem x7:((Rows.useKnownRow.maps==(Tryz.f4.params.toList++Rows.useKnownSpec.plain.varTypes Tryz.prog).any (Tryz.prog.mapsRec ·)))=true:=by kernel_rfl
set_option maxRecDepth 100000 in
theorem x8:((Rows.useKnownRow.ifaces==(Tryz.f4.params.toList++Rows.useKnownSpec.plain.varTypes Tryz.prog).any (Tryz.prog.ifacesRec ·)))=true:=by kernel_rfl
set_option maxRecDepth 100000 in
theorem x9:((Rows.useKnownRow.mapsOut==Tryz.prog.mapsAmong Tryz.f4.resultTypes.toList))=true:=by kernel_rfl
set_option maxRecDepth 100000 in
theorem ya:((Rows.useKnownRow.loops==(Tryz.f4.params.toList++Rows.useKnownSpec.plain.varTypes Tryz.prog).any (Tryz.prog.loopsFrom ·)))=true:=by kernel_rfl
set_option maxRecDepth 100000 in
theorem yb:((Rows.useKnownRow.wideKeys==(Tryz.f4.params.toList++Rows.useKnownSpec.plain.varTypes Tryz.prog++Tryz.f4.resultTypes.toList).any (Tryz.prog.wideKeysFrom ·)))=true:=by kernel_rfl
set_option maxRecDepth 100000 in
theorem yc:(Rows.useKnownSpec.vars.all (Tryz.prog.varReadable ·))=true:=by kernel_rfl
set_option maxRecDepth 100000 in
theorem yd:(Tryz.f4.resultTypes.all (fun t=>Tryz.prog.readableRec t&&decide (t<Tryz.prog.types.size)))=true:=by kernel_rfl
set_option maxRecDepth 100000 in
theorem ye:((Rows.useKnownRow.ifacesOut==Tryz.f4.resultTypes.toList.any (Tryz.prog.ifacesRec ·)))=true:=by kernel_rfl
set_option maxRecDepth 100000 in
theorem yf:((Rows.useKnownRow.loopsOut==Tryz.f4.resultTypes.toList.any (Tryz.prog.loopsFrom ·)))=true:=by kernel_rfl
set_option maxRecDepth 100000 in
theorem yg:((Rows.useKnownRow.plainKeys==Tryz.prog.plainKeys))=true:=by kernel_rfl
set_option maxRecDepth 100000 in
theorem yh:(Rows.useKnownRow.shortTexts.isNone)=true:=by kernel_rfl
set_option maxRecDepth 100000 in
theorem yi:(Tryz.prog.stopsHeard)=true:=by kernel_rfl
set_option maxRecDepth 100000 in
theorem yj:(Tryz.prog.mayEnter)=true:=by kernel_rfl
set_option maxRecDepth 100000 in
theorem yk:((Rows.useKnownRow.lifted==Tryz.prog.liftsFinal))=true:=by kernel_rfl
set_option maxRecDepth 100000 in
theorem yl:((Tryz.prog.make==some Rows.useKnownRow.make))=true:=by kernel_rfl
set_option maxRecDepth 100000 in
theorem ym:((Rows.useKnownRow.kinds==(if Rows.useKnownRow.domain.isEmpty then [] else Tryz.f4.params.toList.map fun t=>match Tryz.prog.underlying t with|some (.int k)=>some k|_=>none)))=true:=by kernel_rfl
set_option maxRecDepth 100000 in
theorem yn:((Rows.useKnownRow.pinned==Rows.useKnownRow.pinnedBy))=true:=by kernel_rfl
set_option maxRecDepth 100000 in
theorem yp:((Rows.useKnownRow.veiled==(Tryz.f4.params.toList++Rows.useKnownSpec.plain.varTypes Tryz.prog++Tryz.f4.resultTypes.toList).any (Tryz.prog.veiledRec ·)))=true:=by kernel_rfl
set_option maxRecDepth 100000 in
theorem yq:(Rows.useKnownRow.veiledFits Tryz.prog Tryz.f4.params.toList (Tryz.f4.params.toList++Rows.useKnownSpec.plain.varTypes Tryz.prog++Tryz.f4.resultTypes.toList))=true:=by kernel_rfl
set_option maxRecDepth 100000 in
theorem yr:Tryz.pinned.checked.prog.funcNamed Rows.useKnownRow.func=some 4:=by kernel_rfl
set_option maxRecDepth 100000 in
theorem yt:Tryz.pinned.checked.prog.mainIs=some ((true, "a1c2afaed8affc00e41cf23877aac270adc1db1d82b5bbb717b555b98614d11f").1,(true, "a1c2afaed8affc00e41cf23877aac270adc1db1d82b5bbb717b555b98614d11f").2.toList):=by kernel_rfl
set_option maxRecDepth 100000 in
theorem yu:Rows.useKnownRow.wfByText (OpenSpec.ofChange Rows.useKnownSpec)=true:=by kernel_rfl
set_option maxRecDepth 100000 in
theorem yv:true=Tryz.pinned.checked.prog.looks []:=by kernel_rfl
set_option maxRecDepth 100000 in
theorem q_said:Tryz.prog.funcNamed "locksmith/locksmithlaw24.UseKnown" =some 4:=by kernel_rfl
set_option maxRecDepth 100000 in
theorem yw:Tryz.f4.isInstance Tryz.pinned.checked.prog Rows.useKnownRow.origin Rows.useKnownRow.targs:=of_decide_eq_true (by kernel_rfl)
set_option maxRecDepth 100000 in
theorem yx:Tryz.f4.isWrapper Tryz.pinned.checked.prog Rows.useKnownRow.wrapper Rows.useKnownRow.mainSum:=of_decide_eq_true (by kernel_rfl)
theorem yy {P:Program} (h:P.funcs.any Func.goes=false) (s:String):P.goesAt .entering s=false:=by
 have hg:∀f,P.goes f=false:=fun f=>by
  unfold Program.goes
  rw[h,Bool.and_false,Bool.or_false,List.any_eq_false]
  intro g _ hx
  rw[Option.any_eq_true] at hx
  obtain ⟨fn,hfn,hx⟩:=hx
  rw[Array.any_eq_false] at h
  obtain ⟨hlt,he⟩:=Array.getElem?_eq_some_iff.1 hfn
  exact h g hlt (he▸hx)
 unfold Program.goesAt Program.goesFrom
 cases P.funcNamed s with
 |none=>rfl
 |some f=>simp[hg f]
set_option maxRecDepth 100000 in
theorem yz:Tryz.pinned.checked.prog.funcs.any Func.goes=false:=by kernel_rfl
theorem yA:false=Rows.useKnownRow.goesBy Tryz.pinned.checked.prog:=(yy yz _).symm
set_option maxRecDepth 100000 in
theorem facts:joinedFacts Tryz.prog 4 Tryz.f4 Rows.useKnownSpec Rows.useKnownRow=true:=by
 unfold joinedFacts
 exact (aT (aT (aT (aT (aT (aT (aT (aT (aT (aT (aT (aT (aT (aT (aT (aT (aT (aT (aT (aT (aT (aT (aT (aT (aT (aT (aT (aT (aT (aT (aT xT xU) xV) xW) xX) xY) xZ) x1) x2) x3) x4) x5) x6) x7) x8) x9) ya) yb) yc) yd) ye) yf) yg) yh) yi) yj) yk) yl) ym) yn) yp) yq)
end Go.Proofs.YtjmnheinkchlfaaGreatDoor
