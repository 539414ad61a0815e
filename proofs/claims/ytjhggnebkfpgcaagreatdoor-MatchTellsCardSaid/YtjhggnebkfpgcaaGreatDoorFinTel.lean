/- MatchTells, for every input: the law's run in the abstract machine, whatever the values, and that machine's soundness. -/
import Derived.Test.YtjhggnebkfpgcaaGreatDoorRows
import Derived.Test.YtjhggnebkfpgcaaGreatDoorCards
import Derived.Test.YtjhggnebkfpgcaaGreatDoorTie
import Derived.Test.YtjhggnebkfpgcaaGreatDoorQ8
import Derived.Test.YtjhggnebkfpgcaaGreatDoorG5
import Derived.ProofKit
import Derived.Lay
import Derived.SevenTiedAt
import Derived.KernelRfl
namespace Go.Proofs.YtjhggnebkfpgcaaGreatDoor
open Go.ChangeShapes Go.WideShapes Go.ChangeAt Go.RowKit
open Go.Proofs.Abs
theorem Tryz.own:ownKnob Tryz.prog.godebug=none:=by kernel_rfl
theorem Tryz.out:laidOutB Tryz.prog=true:=by kernel_rfl
theorem names_rel {W:World} (_:laidMetH Tryz.prog Rows.matchTellsRow.laid W):Rel gl W (fun b=>b<W.heap.size) (fun _=>none) []:=by
 exact rel_tables fun g l hgl=>by cases hgl
set_option maxRecDepth 100000 in
theorem law_lifted (os:Os) (started:os.Started) (H:Type) (enc:TypeId × Value→H):
  ReturnsInHanded {} Tryz.checked os 11 .any (fun w args=>(Rows.matchTellsSpec.pre enc Tryz.prog Tryz.f11 [] false w args∧laidMetH Tryz.prog Rows.matchTellsRow.laid w)∧sizedMet enc Tryz.prog Tryz.f11 (OpenSpec.ofChange Rows.matchTellsSpec) false w args)
   (Rows.matchTellsSpec.post enc Tryz.prog Tryz.f11 false true false false):=by
 refine returnsInHanded_of_change_and (C:=Tryz.checked) (X:=fun w _=>laidMetH Tryz.prog Rows.matchTellsRow.laid w) (fun _ _ _ hh h=>h.of_heap hh) Tryz.own started (by kernel_rfl) Tryz.func11
  (ChangeSpec.witness_shaped (enc:=enc) (C:=Tryz.checked) (os:=os) (X:=fun w _=>laidMetH Tryz.prog Rows.matchTellsRow.laid w) false (World.laidAll Tryz.prog os Rows.matchTellsRow.laid) #[.slice none 0 0,.slice none 0 0,.int .i64 0,.int .i64 0,.int .i64 0] 8 (World.laidAll_os _ _ _)
   (World.shaped_of_ZipB (by kernel_rfl) (by kernel_rfl)) (by kernel_rfl) (by kernel_rfl) (by kernel_rfl)
   (by rw[MakeChecks.laidMetH_plain _ _ _ (by kernel_rfl)];exact laidMet_laidAll _ (by kernel_rfl) (by kernel_rfl))) ?_
 intro W base args ds gs before hval0 hW k1 k2 k3 k4
 have hX:laidMetH Tryz.prog Rows.matchTellsRow.laid W:=by first|exact k1|exact k2|exact k3|exact k4
 have hval:∀ (j:Nat) t v,Tryz.f11.params[j]? =some t→args[j]? =some v→Value.okWide Tryz.prog W .any base t v:=hval0
 have hW':=hW
 obtain ⟨p,q,hA0,hV,rfl,_,_⟩:=hW
 have hA:DataW.TrodAll enc Tryz.prog W 0 (fun _=>true) true Tryz.f11.params.toList args.toList ds p:=hA0
 rw[Tryz.params11] at hA hval
 obtain ⟨v0,w0,d0,y0,p0,q0,ha0,rfl,rfl,h0,hA0⟩:=trodAll_cons hA
 obtain ⟨v1,w1,d1,y1,p1,q1,ha1,rfl,rfl,h1,hA1⟩:=trodAll_cons hA0
 subst ha1
 obtain ⟨v2,w2,d2,y2,p2,q2,ha2,rfl,rfl,h2,hA2⟩:=trodAll_cons hA1
 subst ha2
 obtain ⟨v3,w3,d3,y3,p3,q3,ha3,rfl,rfl,h3,hA3⟩:=trodAll_cons hA2
 subst ha3
 obtain ⟨v4,w4,d4,y4,p4,q4,ha4,rfl,rfl,h4,hA4⟩:=trodAll_cons hA3
 subst ha4
 obtain ⟨rfl,rfl,rfl⟩:=trodAll_nil hA4
 obtain rfl:args= #[v0,v1,v2,v3,v4]:=by cases args;simp_all
 obtain ⟨rfl,rfl⟩:=trodVars_none hV
 obtain ⟨l0,g0,r0⟩:=open_rws Tryz.underlying22 Tryz.underlying42 ⟨rfl,rfl⟩ ⟨rfl,rfl⟩ ⟨rfl,rfl⟩ ⟨rfl,rfl⟩ Tryz.underlying3 (by kernel_rfl) (by kernel_rfl) (hval 0 22 v0 rfl rfl) h0
 obtain ⟨l1,g1,r1⟩:=open_rws Tryz.underlying22 Tryz.underlying42 ⟨rfl,rfl⟩ ⟨rfl,rfl⟩ ⟨rfl,rfl⟩ ⟨rfl,rfl⟩ Tryz.underlying3 (by kernel_rfl) (by kernel_rfl) (hval 1 22 v1 rfl rfl) h1
 obtain ⟨n2,rfl,m2,x2⟩:=Abs.open_int Tryz.underlying3 (hval 2 3 v2 rfl rfl) h2
 obtain ⟨n3,rfl,m3,x3⟩:=Abs.open_int Tryz.underlying3 (hval 3 3 v3 rfl rfl) h3
 obtain ⟨n4,rfl,m4,x4⟩:=Abs.open_int Tryz.underlying3 (hval 4 3 v4 rfl rfl) h4
 clear hA0 hval0
 simp only[List.append_nil] at hW'
 have hlt:∀x∈p0++(p1++(p2++(p3++(p4)))),x.block<W.heap.size:=fun x hx=>hW'.lt x (by simpa using hx)
 have hcalls:=(law_sem l0 l1 n2 n3 n4 g1).calls (w:=W) (vs:= #[v0,v1,.int .i64 n2,.int .i64 n3,.int .i64 n4]) Tryz.func11 rfl (by kernel_rfl) (names_rel hX) (.cons r0 (.cons r1 (.cons (.int _ _) (.cons (.int _ _) (.cons (.int _ _) .nil)))))
 refine hcalls.mono fun e W' ⟨he,hb⟩=> ?_
 subst he
 exact ⟨_,rfl,_,_,_,[],_,[],hW',trodAll_mk1 (shut_bool Tryz.underlying4 _),⟨p0,_,Below.trod Tryz.out (by kernel_rfl) (of_decide_eq_true (by kernel_rfl)) h0 hb (fun x hx=>hlt x (by simp[hx])),⟨p1,_,Below.trod Tryz.out (by kernel_rfl) (of_decide_eq_true (by kernel_rfl)) h1 hb (fun x hx=>hlt x (by simp[hx])),⟨p2,_,Below.trod Tryz.out (by kernel_rfl) (of_decide_eq_true (by kernel_rfl)) h2 hb (fun x hx=>hlt x (by simp[hx])),⟨p3,_,Below.trod Tryz.out (by kernel_rfl) (of_decide_eq_true (by kernel_rfl)) h3 hb (fun x hx=>hlt x (by simp[hx])),⟨p4,_,Below.trod Tryz.out (by kernel_rfl) (of_decide_eq_true (by kernel_rfl)) h4 hb (fun x hx=>hlt x (by simp[hx])),rfl,rfl⟩,rfl⟩,rfl⟩,rfl⟩,rfl⟩,rfl,hb.frame _,fun h=>by cases h⟩
theorem law_holds:Rows.MatchTellsSaid:=
 OpenClaim.holds_of_wide 11 Tryz.f11 rfl rfl rfl rfl rfl rfl rfl ⟨rfl,rfl,rfl,rfl,rfl⟩ rfl rfl rfl rfl rfl (by kernel_rfl) Tryz.func11 (by kernel_rfl)
  (of_decide_eq_true (by kernel_rfl)) (by unfold Func.isWrapper;first|(rw[if_pos (by decide+kernel)];kernel_rfl)|(rw[if_neg (by decide+kernel)];exact ⟨rfl,rfl⟩))
  (fun os started H enc _=>law_lifted os started H enc)
theorem lawCard_holds:Rows.MatchTellsCardSaid:=
 Claim7.holds_tied_plain_at .later [] [.data,.pinned] true (true, "ff3b1766f6e6ac99f41e1628d4ff9bad5dc036d3bec380b43cc61596aae296f2") true
  law_holds (fun _ h=>by cases h) (by kernel_rfl) (fun _ h=>by cases h) matchTells_row_tie rfl ⟨rfl,rfl⟩ (by kernel_rfl) rfl
  (fun f fn hf hfn=>by
   obtain rfl:f=11:=Option.some.inj ((show Tryz.prog.funcNamed "locksmith/locksmithlaw14.MatchTells" =some 11 by kernel_rfl).symm.trans hf)|>.symm
   obtain rfl:fn=Tryz.f11:=(Option.some.inj (Tryz.func11.symm.trans hfn)).symm
   exact ⟨by kernel_rfl,fun j t ht=>by
    rw[Tryz.params11] at ht
    have hm:t∈[22,22,3,3,3]:=by simpa using Array.mem_of_getElem? ht
    have hall:([22,22,3,3,3].all fun u=> !Tryz.prog.wantsStandIn u)=true:=by kernel_rfl
    exact (show Tryz.prog.wantsStandIn t=false by simpa using List.all_eq_true.1 hall t hm)⟩)
  (by kernel_rfl)
#print axioms lawCard_holds
end Go.Proofs.YtjhggnebkfpgcaaGreatDoor
