import Derived.Test.YtlljinebapfdaaaGreatDoorQ1
import Derived.Test.YtlljinebapfdaaaGreatDoorG5
namespace Go.Proofs.YtlljinebapfdaaaGreatDoor
open Go Go.RowKit
open Go.Proofs.Abs
theorem Dm:∀ {ess:List (List AV)},(∀c∈ess,(∃a b d z:Int,c=[.int .i64 a,.int .i64 b,.int .i64 d,.int .i64 z]∧(IntKind.i64.min≤a∧a≤IntKind.i64.max)∧(IntKind.i64.min≤b∧b≤IntKind.i64.max)∧(IntKind.i64.min≤d∧d≤IntKind.i64.max)∧(IntKind.i64.min≤z∧z≤IntKind.i64.max))∧c.length=4)→∃l:List Rw,ess.map g6=l.map cb∧l.length=ess.length
 |[],_=>⟨[],rfl,rfl⟩
 |c::t,h=>by
  obtain ⟨⟨a,b,d,z,rfl,_⟩,_⟩:=h c (by simp)
  obtain ⟨l,e,hl⟩:=Dm (ess:=t) fun c hc=>h c (by simp[hc])
  refine ⟨⟨a,b,d,z⟩::l, ?_,by simp[hl]⟩
  rw[List.map_cons,e]
  rfl
section
variable {P:Program} {H:Type} {enc:TypeId × Value→H} {w:World} {base:Nat} {spare:Nat→Bool} {held:Bool} {v:Value} {d:DataW H} {ps:List MemPlace} {t e i:TypeId}
theorem Pp {f0 f1 f2 f3:Field} (ht:P.underlying t=some (.slice e)) (hs:P.underlying e=some (.struct #[f0,f1,f2,f3])) (h0:f0.type=i∧f0.offset=0) (h1:f1.type=i∧f1.offset=1) (h2:f2.type=i∧f2.offset=2) (h3:f3.type=i∧f3.offset=3)
  (he:P.underlying i=some (.int .i64)) (hc:P.cellsOf i=1) (h4:P.cellsOf e=4) (hok:Value.okWide P w .any base t v) (h:DataW.Trod enc P w 0 spare held t v d ps):
  ∃ (l:List Rw),l.length≤9223372036854775807∧Rep w (fun b=>b<w.heap.size) (fun _=>none) (.fsl false (l.map cb)) v:=by
 rcases open_slice ht (FH hs h0 h1 h2 h3 he hc h4) hok h with rfl|⟨ess,hr,hp,hl⟩
 ·exact ⟨[],by simp,Wk.nil.out _ _ _ _ .nilsl⟩
 ·obtain ⟨l,e1,e2⟩:=Dm hp
  refine ⟨l,by rw[e2];exact hl, ?_⟩
  rw[e1] at hr
  exact hr
end
end Go.Proofs.YtlljinebapfdaaaGreatDoor
