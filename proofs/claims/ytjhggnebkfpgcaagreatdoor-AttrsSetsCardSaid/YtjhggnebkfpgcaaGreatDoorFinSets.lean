/- AttrsSets, for every input: the law's run in the abstract machine, whatever the values, and that machine's soundness. -/
import Derived.Test.YtjhggnebkfpgcaaGreatDoorRows
import Derived.Test.YtjhggnebkfpgcaaGreatDoorCards
import Derived.Test.YtjhggnebkfpgcaaGreatDoorTie
import Derived.Test.YtjhggnebkfpgcaaGreatDoorQ8
import Derived.Test.YtjhggnebkfpgcaaGreatDoorQ9
import Derived.Test.YtjhggnebkfpgcaaGreatDoorG5
import Derived.ProofKit
import Derived.Lay
import Derived.SevenTiedAt
import Derived.KernelRfl
namespace Go.Proofs.YtjhggnebkfpgcaaGreatDoor
open Go.ChangeShapes Go.WideShapes Go.ChangeAt Go.RowKit
open Go.Proofs.Abs
theorem Tryz.own:ownKnob Tryz.prog.godebug=none:=by kernel_rfl
theorem Tryz.out:laidOutB Tryz.prog=true:=by kernel_rfl
theorem names_rel {W:World} (h:laidMetH Tryz.prog Rows.attrsSetsRow.laid W):Rel gl W (fun b=>b<W.heap.size) (fun _=>none) []:=by
 rw[MakeChecks.laidMetH_plain _ _ _ (by kernel_rfl)] at h
 obtain ⟨ps,⟨_,_,_,_,_,_,_,_,_,_,⟨g,t,cs,fuel,p,q,hg,ht,hv,hd,_,_⟩,_⟩,_,_⟩:=h
 obtain rfl:=Option.some.inj ((show Tryz.prog.globalNamed "locksmith/locksmithhand.names" =some 0 by kernel_rfl).symm.trans hg)
 obtain rfl:=Option.some.inj ((show (Tryz.prog.globals[0]?).map (·.type)=some 135 by kernel_rfl).symm.trans ht)
 have hcell:=table_strings (l:=nameL) (n:=24) (e:=9) (by kernel_rfl) (by kernel_rfl) (by kernel_rfl) (by kernel_rfl) hd
 have hat:∀ (j:Nat) s,nameL[j]? =some s→∃b:ByteArray,W.cell? ⟨0,j,none⟩=some (.string b)∧b.data.toList=s:=fun j s hj=>by
  obtain ⟨b,h1,h2⟩:=hcell j s hj
  exact ⟨b,by rw[World.var?_cell hg hv j];exact h1,h2⟩
 have h0:0<W.heap.size:=by
  obtain ⟨b,h1,_⟩:=hat 0 _ rfl
  rcases Nat.eq_zero_or_pos W.heap.size with h'|h'
  ·have:W.heap[0]? =none:=by rw[Array.getElem?_eq_none (by omega)]
   simp[World.cell?,this] at h1
  ·exact h'
 refine rel_tables fun g l hgl=> ?_
 unfold gl at hgl
 split at hgl
 ·rename_i hz
  have hz:g=0:=beq_iff.1 hz
  subst hz
  simp only[Option.some.injEq] at hgl
  subst hgl
  refine ⟨h0,fun j x hx=> ?_⟩
  rw[List.getElem?_map] at hx
  simp only[Option.map_eq_some_iff] at hx
  obtain ⟨s,hs,rfl⟩:=hx
  obtain ⟨b,h1,h2⟩:=hat j s hs
  exact ⟨_,h1,.str s b h2⟩
 ·cases hgl
set_option maxRecDepth 100000 in
theorem law_lifted (os:Os) (started:os.Started) (H:Type) (enc:TypeId × Value→H):
  ReturnsInHanded {} Tryz.checked os 3 .any (fun w args=>(Rows.attrsSetsSpec.pre enc Tryz.prog Tryz.f3 [] false w args∧laidMetH Tryz.prog Rows.attrsSetsRow.laid w)∧sizedMet enc Tryz.prog Tryz.f3 (OpenSpec.ofChange Rows.attrsSetsSpec) false w args)
   (Rows.attrsSetsSpec.post enc Tryz.prog Tryz.f3 false true false false):=by
 refine returnsInHanded_of_change_and (C:=Tryz.checked) (X:=fun w _=>laidMetH Tryz.prog Rows.attrsSetsRow.laid w) (fun _ _ _ hh h=>h.of_heap hh) Tryz.own started (by kernel_rfl) Tryz.func3
  (ChangeSpec.witness_shaped (enc:=enc) (C:=Tryz.checked) (os:=os) (X:=fun w _=>laidMetH Tryz.prog Rows.attrsSetsRow.laid w) false (World.laidAll Tryz.prog os Rows.attrsSetsRow.laid) #[.int .i64 0,.slice none 0 0] 8 (World.laidAll_os _ _ _)
   (World.shaped_of_ZipB (by kernel_rfl) (by kernel_rfl)) (by kernel_rfl) (by kernel_rfl) (by kernel_rfl)
   (by rw[MakeChecks.laidMetH_plain _ _ _ (by kernel_rfl)];exact laidMet_laidAll _ (by kernel_rfl) (by kernel_rfl))) ?_
 intro W base args ds gs before hval0 hW k1 k2 k3 k4
 have hX:laidMetH Tryz.prog Rows.attrsSetsRow.laid W:=by first|exact k1|exact k2|exact k3|exact k4
 have hval:∀ (j:Nat) t v,Tryz.f3.params[j]? =some t→args[j]? =some v→Value.okWide Tryz.prog W .any base t v:=hval0
 have hW':=hW
 obtain ⟨p,q,hA0,hV,rfl,_,_⟩:=hW
 have hA:DataW.TrodAll enc Tryz.prog W 0 (fun _=>true) true Tryz.f3.params.toList args.toList ds p:=hA0
 rw[Tryz.params3] at hA hval
 obtain ⟨v0,w0,d0,y0,p0,q0,ha0,rfl,rfl,h0,hA0⟩:=trodAll_cons hA
 obtain ⟨v1,w1,d1,y1,p1,q1,ha1,rfl,rfl,h1,hA1⟩:=trodAll_cons hA0
 subst ha1
 obtain ⟨rfl,rfl,rfl⟩:=trodAll_nil hA1
 obtain rfl:args= #[v0,v1]:=by cases args;simp_all
 obtain ⟨rfl,rfl⟩:=trodVars_none hV
 obtain ⟨n0,rfl,m0,x0⟩:=Abs.open_int Tryz.underlying3 (hval 0 3 v0 rfl rfl) h0
 obtain ⟨l1,g1,r1⟩:=open_rws Tryz.underlying22 Tryz.underlying42 ⟨rfl,rfl⟩ ⟨rfl,rfl⟩ ⟨rfl,rfl⟩ ⟨rfl,rfl⟩ Tryz.underlying3 (by kernel_rfl) (by kernel_rfl) (hval 1 22 v1 rfl rfl) h1
 clear hA0 hval0
 simp only[List.append_nil] at hW'
 have hlt:∀x∈p0++(p1),x.block<W.heap.size:=fun x hx=>hW'.lt x (by simpa using hx)
 have hcalls:=(law_sem n0 l1).calls (w:=W) (vs:= #[.int .i64 n0,v1]) Tryz.func3 rfl (by kernel_rfl) (names_rel hX) (.cons (.int _ _) (.cons r1 .nil))
 refine hcalls.mono fun e W' ⟨he,hb⟩=> ?_
 subst he
 exact ⟨_,rfl,_,_,_,[],_,[],hW',trodAll_mk1 (shut_bool Tryz.underlying4 _),⟨p0,_,Below.trod Tryz.out (by kernel_rfl) (of_decide_eq_true (by kernel_rfl)) h0 hb (fun x hx=>hlt x (by simp[hx])),⟨p1,_,Below.trod Tryz.out (by kernel_rfl) (of_decide_eq_true (by kernel_rfl)) h1 hb (fun x hx=>hlt x (by simp[hx])),rfl,rfl⟩,rfl⟩,rfl,hb.frame _,fun h=>by cases h⟩
theorem law_holds:Rows.AttrsSetsSaid:=
 OpenClaim.holds_of_wide 3 Tryz.f3 rfl rfl rfl rfl rfl rfl rfl ⟨rfl,rfl,rfl,rfl,rfl⟩ rfl rfl rfl rfl rfl (by kernel_rfl) Tryz.func3 (by kernel_rfl)
  (of_decide_eq_true (by kernel_rfl)) (by unfold Func.isWrapper;first|(rw[if_pos (by decide+kernel)];kernel_rfl)|(rw[if_neg (by decide+kernel)];exact ⟨rfl,rfl⟩))
  (fun os started H enc _=>law_lifted os started H enc)
theorem lawCard_holds:Rows.AttrsSetsCardSaid:=
 Claim7.holds_tied_plain_at .later [] [.data,.data,.pinned] true (true, "ff3b1766f6e6ac99f41e1628d4ff9bad5dc036d3bec380b43cc61596aae296f2") true
  law_holds (fun _ h=>by cases h) (by kernel_rfl) (fun _ h=>by cases h) attrsSets_row_tie rfl ⟨rfl,rfl⟩ (by kernel_rfl) rfl
  (fun f fn hf hfn=>by
   obtain rfl:f=3:=Option.some.inj ((show Tryz.prog.funcNamed "locksmith/locksmithlaw13.AttrsSets" =some 3 by kernel_rfl).symm.trans hf)|>.symm
   obtain rfl:fn=Tryz.f3:=(Option.some.inj (Tryz.func3.symm.trans hfn)).symm
   exact ⟨by kernel_rfl,fun j t ht=>by
    rw[Tryz.params3] at ht
    have hm:t∈[3,22]:=by simpa using Array.mem_of_getElem? ht
    have hall:([3,22].all fun u=> !Tryz.prog.wantsStandIn u)=true:=by kernel_rfl
    exact (show Tryz.prog.wantsStandIn t=false by simpa using List.all_eq_true.1 hall t hm)⟩)
  (by kernel_rfl)
#print axioms lawCard_holds
end Go.Proofs.YtjhggnebkfpgcaaGreatDoor
