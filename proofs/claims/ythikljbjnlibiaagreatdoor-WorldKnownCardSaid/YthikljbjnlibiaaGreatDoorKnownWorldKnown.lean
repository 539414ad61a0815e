import Derived.Test.YthikljbjnlibiaaGreatDoorRows
import Derived.Test.YthikljbjnlibiaaGreatDoorCards
import Derived.Test.YthikljbjnlibiaaGreatDoorQ1
import Derived.Test.YthikljbjnlibiaaGreatDoorQ10
import Derived.Test.YthikljbjnlibiaaGreatDoorQ11
import Derived.ProofKit
import Derived.Lib.LaidU8
import Derived.Test.YthikljbjnlibiaaGreatDoorG5
import Derived.Lay
import Derived.SevenTiedAt
import Derived.KernelRfl
namespace Go.Proofs.YthikljbjnlibiaaGreatDoor
open Go.ChangeShapes Go.WideShapes Go.ChangeAt Go.RowKit
open Go.Proofs.Abs
theorem Tryz.own:ownKnob Tryz.prog.godebug=none:=by kernel_rfl
theorem vQ {W:World} {g off:Nat} {v:Value} (h:W.cell? ⟨g,off,none⟩=some v):g<W.heap.size:=by
 rcases Nat.lt_or_ge g W.heap.size with h'|h'
 ·exact h'
 ·have:W.heap[g]? =none:=by rw[Array.getElem?_eq_none (by omega)]
  simp[World.cell?,this] at h
theorem vR {W:World} (h:laidMetH Tryz.prog Rows.worldKnownRow.laid W):Rel gl W (fun b=>b<W.heap.size) (fun _=>none) []:=by
 rw[MakeChecks.laidMetH_plain _ _ _ (by kernel_rfl)] at h
 obtain ⟨g,t,cs,fuel,p,hg,ht,hv,hd⟩:=Lib.laidMet.reads h (n:= "locksmith/locksmithhand.kinds") (d:=Rows.laid_locksmith_locksmithhand_kinds) (by simp[Rows.worldKnownRow])
 obtain rfl:=Option.some.inj ((show Tryz.prog.globalNamed "locksmith/locksmithhand.kinds" =some 3 by kernel_rfl).symm.trans hg)
 obtain rfl:=Option.some.inj ((show (Tryz.prog.globals[3]?).map (·.type)=some 359 by kernel_rfl).symm.trans ht)
 rw[show (Rows.laid_locksmith_locksmithhand_kinds:DataW Unit)=Lib.tabData .i64 kindL from rfl] at hd
 have hc:=Lib.cells_of_tab (n:=28) (e:=3) (by kernel_rfl) (by kernel_rfl) (by kernel_rfl) (by kernel_rfl) hd
 have hat:∀ (j:Nat) z,kindL[j]? =some z→W.cell? ⟨3,j,none⟩=some (.int .i64 z):=fun j z hj=>by
  rw[World.var?_cell hg hv j,←Array.getElem?_toList,hc,List.getElem?_map,hj]
  rfl
 refine rU fun g l hgl=> ?_
 unfold gl at hgl
 split at hgl
 ·rename_i hz
  have hz:g=3:=beq_iff.1 hz
  subst hz
  simp only[Option.some.injEq] at hgl
  subst hgl
  refine ⟨vQ (hat 0 1 rfl),fun j x hx=> ?_⟩
  rw[List.getElem?_map] at hx
  simp only[Option.map_eq_some_iff] at hx
  obtain ⟨z,hz,rfl⟩:=hx
  exact ⟨_,hat j z hz,.int _ _⟩
 ·cases hgl
set_option maxRecDepth 100000 in
theorem vS (os:Os) (started:os.Started) (H:Type) (enc:TypeId × Value→H):
  ReturnsInHanded {} Tryz.checked os 8 .any (fun w args=>(Rows.worldKnownSpec.pre enc Tryz.prog Tryz.f8 [] false w args∧laidMetH Tryz.prog Rows.worldKnownRow.laid w)∧sizedMet enc Tryz.prog Tryz.f8 (OpenSpec.ofChange Rows.worldKnownSpec) false w args)
   (Rows.worldKnownSpec.post enc Tryz.prog Tryz.f8 false true false false):=by
 refine returnsInHanded_of_change_and (C:=Tryz.checked) (X:=fun w _=>laidMetH Tryz.prog Rows.worldKnownRow.laid w) (fun _ _ _ hh h=>h.of_heap hh) Tryz.own started (by kernel_rfl) Tryz.func8
  (ChangeSpec.witness_shaped (enc:=enc) (C:=Tryz.checked) (os:=os) (X:=fun w _=>laidMetH Tryz.prog Rows.worldKnownRow.laid w) false (World.laidAll Tryz.prog os Rows.worldKnownRow.laid) #[] 8 (World.laidAll_os _ _ _)
   (World.shaped_of_ZipB (by kernel_rfl) (by kernel_rfl)) (by kernel_rfl) (by kernel_rfl) (by kernel_rfl)
   (by rw[MakeChecks.laidMetH_plain _ _ _ (by kernel_rfl)];exact laidMet_laidAll _ (by kernel_rfl) (by kernel_rfl))) ?_
 intro W base args ds gs before hval0 hW k1 k2 k3 k4
 have hX:laidMetH Tryz.prog Rows.worldKnownRow.laid W:=by first|exact k1|exact k2|exact k3|exact k4
 have hW':=hW
 obtain ⟨p,q,hA0,hV,rfl,_,_⟩:=hW
 have hA:DataW.TrodAll enc Tryz.prog W 0 (fun _=>true) true Tryz.f8.params.toList args.toList ds p:=hA0
 rw[Tryz.params8] at hA
 obtain ⟨rfl,rfl,rfl⟩:=trodAll_none hA
 obtain ⟨rfl,rfl⟩:=trodVars_none hV
 clear hA0 hval0 hA hV
 simp only[List.append_nil] at hW'
 refine ((u7).calls (w:=W) (vs:= #[]) Tryz.func8 rfl (by kernel_rfl) (vR hX) .nil).mono fun e W' ⟨he,hb⟩=> ?_
 subst he
 exact ⟨_,rfl,_,_,_,[],[],[],hW',trodAll_mk1 (shut_bool Tryz.underlying4 _),trodAll_mk0,rfl,hb.frame _,fun h=>by cases h⟩
theorem vT:Rows.WorldKnownSaid:=
 OpenClaim.holds_of_wide 8 Tryz.f8 rfl rfl rfl rfl rfl rfl rfl ⟨rfl,rfl,rfl,rfl,rfl⟩ rfl rfl rfl rfl rfl vH Tryz.func8 facts
  vL vM
  (fun os started H enc _=>vS os started H enc)
theorem knownCard_holds:Rows.WorldKnownCardSaid:=
 Claim7.holds_tied_plain_at .later [] [.pinned,.data,.sentinel,.sentinel,.data,.data,.data,.data,.data] true (true, "0d4352c8d8a49b2bebd55c0a8131562b5690f94eb20bad2e805ea737fdefdfaa") true
  vT (fun _ h=>by cases h) vJ (fun _ h=>by cases h) worldKnown_row_tie rfl ⟨rfl,rfl⟩ vI rfl
  (fun f fn hf hfn=>by
   obtain rfl:f=8:=Option.some.inj (q_said.symm.trans hf)|>.symm
   obtain rfl:fn=Tryz.f8:=(Option.some.inj (Tryz.func8.symm.trans hfn)).symm
   exact ⟨vK,fun j t ht=>by
    rw[Tryz.params8] at ht
    simp at ht⟩)
  vP
#print axioms knownCard_holds
end Go.Proofs.YthikljbjnlibiaaGreatDoor
