import Derived.Test.YtjhggnebkfpgcaaGreatDoorRows
import Derived.Test.YtjhggnebkfpgcaaGreatDoorCards
import Derived.Test.YtjhggnebkfpgcaaGreatDoorTie
import Derived.Test.YtjhggnebkfpgcaaGreatDoorQ8
import Derived.Test.YtjhggnebkfpgcaaGreatDoorG5
import Derived.ProofKit
import Derived.Lib.LaidU8T
import Derived.Lay
import Derived.SevenTiedAt
import Derived.KernelRfl
namespace Go.Proofs.YtjhggnebkfpgcaaGreatDoor
open Go.ChangeShapes Go.WideShapes Go.ChangeAt Go.RowKit
open Go.Proofs.Abs
theorem Tryz.own:ownKnob Tryz.prog.godebug=none:=by kernel_rfl
theorem Tryz.out:laidOutB Tryz.prog=true:=by kernel_rfl
theorem Ka {W:World} {g off:Nat} {v:Value} (h:W.cell? ⟨g,off,none⟩=some v):g<W.heap.size:=by
 rcases Nat.lt_or_ge g W.heap.size with h'|h'
 ·exact h'
 ·have:W.heap[g]? =none:=by rw[Array.getElem?_eq_none (by omega)]
  simp[World.cell?,this] at h
theorem Wf {W:World} (h:laidMetH Tryz.prog Rows.matchFindsRow.laid W):Rel gl W (fun b=>b<W.heap.size) (fun _=>none) []:=by
 rw[MakeChecks.laidMetH_plain _ _ _ (by kernel_rfl)] at h
 have hU:Lib.Utf8Tabs 1 2 W:=utf8Tabs_of_readsT (ρ:=Tryz.laysValid_ren) (U8Types.of196 Tryz.laysValid) ⟨by kernel_rfl,by kernel_rfl,by kernel_rfl,by kernel_rfl,by kernel_rfl,by kernel_rfl,by kernel_rfl⟩
  (by have:=Lib.laidMet.reads h (.tail _ (.tail _ (.head _)));exact (show Rows.laid_unicode_utf8_first=Lib.firstData by kernel_rfl)▸this) (by have:=Lib.laidMet.reads h (.head _);exact (show Rows.laid_unicode_utf8_acceptRanges=Lib.acceptData by kernel_rfl)▸this)
 obtain ⟨ps,⟨_,_,_,_,_,_,_,_,_,_,⟨g,t,cs,fuel,p,q,hg,ht,hv,hd,_,_⟩,_⟩,_,_⟩:=h
 obtain rfl:=Option.some.inj ((show Tryz.prog.globalNamed "locksmith/locksmithhand.names" =some 0 by kernel_rfl).symm.trans hg)
 obtain rfl:=Option.some.inj ((show (Tryz.prog.globals[0]?).map (·.type)=some 135 by kernel_rfl).symm.trans ht)
 have hcell:=L5 (l:=nameL) (n:=24) (e:=9) (by kernel_rfl) (by kernel_rfl) (by kernel_rfl) (by kernel_rfl) hd
 have hat:∀ (j:Nat) s,nameL[j]? =some s→∃b:ByteArray,W.cell? ⟨0,j,none⟩=some (.string b)∧b.data.toList=s:=fun j s hj=>by
  obtain ⟨b,h1,h2⟩:=hcell j s hj
  exact ⟨b,by rw[World.var?_cell hg hv j];exact h1,h2⟩
 have h0:0<W.heap.size:=by
  obtain ⟨b,h1,_⟩:=hat 0 _ rfl
  rcases Nat.eq_zero_or_pos W.heap.size with h'|h'
  ·have:W.heap[0]? =none:=by rw[Array.getElem?_eq_none (by omega)]
   simp[World.cell?,this] at h1
  ·exact h'
 refine LZ fun g l hgl=> ?_
 unfold gl at hgl
 split at hgl
 ·rename_i hz
  have hz:g=0:=beq_iff.1 hz
  subst hz
  simp only[Option.some.injEq] at hgl
  subst hgl
  refine ⟨h0,fun j x hx=> ?_⟩
  rw[List.getElem?_map] at hx
  simp only[Option.map_eq_some_iff] at hx
  obtain ⟨s,hs,rfl⟩:=hx
  obtain ⟨b,h1,h2⟩:=hat j s hs
  exact ⟨_,h1,.str s b h2⟩
 split at hgl
 ·rename_i hz
  have hz:g=1:=beq_iff.1 hz
  subst hz
  simp only[Option.some.injEq] at hgl
  subst hgl
  refine ⟨Ka (hU.1 0 (by omega)),fun j x hx=> ?_⟩
  simp only[uL,List.getElem?_map,Option.map_eq_some_iff] at hx
  obtain ⟨n,hn,rfl⟩:=hx
  have hj:j<256:=by have:=(List.getElem?_eq_some_iff.1 hn).1;rw[show firL.length=256 by kernel_rfl] at this;exact this
  have he:=Wd j hj
  rw[hn] at he
  cases he
  exact ⟨_,hU.1 j hj,.int _ _⟩
 split at hgl
 ·rename_i hz
  have hz:g=2:=beq_iff.1 hz
  subst hz
  simp only[Option.some.injEq] at hgl
  subst hgl
  refine ⟨Ka (hU.2 0 (by omega)).1,fun j x hx=> ?_⟩
  simp only[uL,List.getElem?_map,Option.map_eq_some_iff] at hx
  obtain ⟨n,hn,rfl⟩:=hx
  have hj:j<32:=by have:=(List.getElem?_eq_some_iff.1 hn).1;rw[show accL.length=32 by kernel_rfl] at this;exact this
  have hi:=We (j/2) (by omega)
  have hv:=hU.2 (j/2) (by omega)
  rcases Nat.mod_two_eq_zero_or_one j with h2|h2
  ·have e:2*(j/2)=j:=by omega
   rw[e,hn] at hi
   rw[e] at hv
   cases hi.1
   exact ⟨_,hv.1,.int _ _⟩
  ·have e:2*(j/2)+1=j:=by omega
   rw[e,hn] at hi
   rw[e] at hv
   cases hi.2
   exact ⟨_,hv.2,.int _ _⟩
 ·cases hgl
set_option maxRecDepth 100000 in
theorem Wg (os:Os) (started:os.Started) (H:Type) (enc:TypeId × Value→H):
  ReturnsInHanded {} Tryz.checked os 13 .any (fun w args=>(Rows.matchFindsSpec.pre enc Tryz.prog Tryz.f13 [] false w args∧laidMetH Tryz.prog Rows.matchFindsRow.laid w)∧sizedMet enc Tryz.prog Tryz.f13 (OpenSpec.ofChange Rows.matchFindsSpec) false w args)
   (Rows.matchFindsSpec.post enc Tryz.prog Tryz.f13 false true false false):=by
 refine returnsInHanded_of_change_and (C:=Tryz.checked) (X:=fun w _=>laidMetH Tryz.prog Rows.matchFindsRow.laid w) (fun _ _ _ hh h=>h.of_heap hh) Tryz.own started (by kernel_rfl) Tryz.func13
  (ChangeSpec.witness_shaped (enc:=enc) (C:=Tryz.checked) (os:=os) (X:=fun w _=>laidMetH Tryz.prog Rows.matchFindsRow.laid w) false (World.laidAll Tryz.prog os Rows.matchFindsRow.laid) #[.slice none 0 0,.slice none 0 0,.slice none 0 0,.int .i64 0,.int .i64 0] 8 (World.laidAll_os _ _ _)
   (World.shaped_of_ZipB (by kernel_rfl) (by kernel_rfl)) (by kernel_rfl) (by kernel_rfl) (by kernel_rfl)
   (by rw[MakeChecks.laidMetH_plain _ _ _ (by kernel_rfl)];exact laidMet_laidAll _ (by kernel_rfl) (by kernel_rfl))) ?_
 intro W base args ds gs before hval0 hW k1 k2 k3 k4
 have hX:laidMetH Tryz.prog Rows.matchFindsRow.laid W:=by first|exact k1|exact k2|exact k3|exact k4
 have hval:∀ (j:Nat) t v,Tryz.f13.params[j]? =some t→args[j]? =some v→Value.okWide Tryz.prog W .any base t v:=hval0
 have hW':=hW
 obtain ⟨p,q,hA0,hV,rfl,_,_⟩:=hW
 have hA:DataW.TrodAll enc Tryz.prog W 0 (fun _=>true) true Tryz.f13.params.toList args.toList ds p:=hA0
 rw[Tryz.params13] at hA hval
 obtain ⟨v0,w0,d0,y0,p0,q0,ha0,rfl,rfl,h0,hA0⟩:=trodAll_cons hA
 obtain ⟨v1,w1,d1,y1,p1,q1,ha1,rfl,rfl,h1,hA1⟩:=trodAll_cons hA0
 subst ha1
 obtain ⟨v2,w2,d2,y2,p2,q2,ha2,rfl,rfl,h2,hA2⟩:=trodAll_cons hA1
 subst ha2
 obtain ⟨v3,w3,d3,y3,p3,q3,ha3,rfl,rfl,h3,hA3⟩:=trodAll_cons hA2
 subst ha3
 obtain ⟨v4,w4,d4,y4,p4,q4,ha4,rfl,rfl,h4,hA4⟩:=trodAll_cons hA3
 subst ha4
 obtain ⟨rfl,rfl,rfl⟩:=trodAll_nil hA4
 obtain rfl:args= #[v0,v1,v2,v3,v4]:=by cases args;simp_all
 obtain ⟨rfl,rfl⟩:=trodVars_none hV
 obtain ⟨l0,g0,r0⟩:=BT Tryz.underlying22 Tryz.underlying42 ⟨rfl,rfl⟩ ⟨rfl,rfl⟩ ⟨rfl,rfl⟩ ⟨rfl,rfl⟩ Tryz.underlying3 (by kernel_rfl) (by kernel_rfl) (hval 0 22 v0 rfl rfl) h0
 obtain ⟨l1,g1,r1⟩:=BT Tryz.underlying22 Tryz.underlying42 ⟨rfl,rfl⟩ ⟨rfl,rfl⟩ ⟨rfl,rfl⟩ ⟨rfl,rfl⟩ Tryz.underlying3 (by kernel_rfl) (by kernel_rfl) (hval 1 22 v1 rfl rfl) h1
 obtain ⟨l2,g2,r2⟩:=BT Tryz.underlying22 Tryz.underlying42 ⟨rfl,rfl⟩ ⟨rfl,rfl⟩ ⟨rfl,rfl⟩ ⟨rfl,rfl⟩ Tryz.underlying3 (by kernel_rfl) (by kernel_rfl) (hval 2 22 v2 rfl rfl) h2
 obtain ⟨n3,rfl,m3,x3⟩:=Abs.open_int Tryz.underlying3 (hval 3 3 v3 rfl rfl) h3
 obtain ⟨n4,rfl,m4,x4⟩:=Abs.open_int Tryz.underlying3 (hval 4 3 v4 rfl rfl) h4
 clear hA0 hval0
 simp only[List.append_nil] at hW'
 have hlt:∀x∈p0++(p1++(p2++(p3++(p4)))),x.block<W.heap.size:=fun x hx=>hW'.lt x (by simpa using hx)
 have hcalls:=(Wc l0 l1 l2 n3 n4 g1).calls (w:=W) (vs:= #[v0,v1,v2,.int .i64 n3,.int .i64 n4]) Tryz.func13 rfl (by kernel_rfl) (Wf hX) (.cons r0 (.cons r1 (.cons r2 (.cons (.int _ _) (.cons (.int _ _) .nil)))))
 refine hcalls.mono fun e W' ⟨he,hb⟩=> ?_
 subst he
 exact ⟨_,rfl,_,_,_,[],_,[],hW',trodAll_mk1 (shut_bool Tryz.underlying4 _),⟨p0,_,Below.trod Tryz.out (by kernel_rfl) (of_decide_eq_true (by kernel_rfl)) h0 hb (fun x hx=>hlt x (by simp[hx])),⟨p1,_,Below.trod Tryz.out (by kernel_rfl) (of_decide_eq_true (by kernel_rfl)) h1 hb (fun x hx=>hlt x (by simp[hx])),⟨p2,_,Below.trod Tryz.out (by kernel_rfl) (of_decide_eq_true (by kernel_rfl)) h2 hb (fun x hx=>hlt x (by simp[hx])),⟨p3,_,Below.trod Tryz.out (by kernel_rfl) (of_decide_eq_true (by kernel_rfl)) h3 hb (fun x hx=>hlt x (by simp[hx])),⟨p4,_,Below.trod Tryz.out (by kernel_rfl) (of_decide_eq_true (by kernel_rfl)) h4 hb (fun x hx=>hlt x (by simp[hx])),rfl,rfl⟩,rfl⟩,rfl⟩,rfl⟩,rfl⟩,rfl,hb.frame _,fun h=>by cases h⟩
theorem Wi:Rows.MatchFindsSaid:=
 OpenClaim.holds_of_wide 13 Tryz.f13 rfl rfl rfl rfl rfl rfl rfl ⟨rfl,rfl,rfl,rfl,rfl⟩ rfl rfl rfl rfl rfl (by kernel_rfl) Tryz.func13 (by kernel_rfl)
  (of_decide_eq_true (by kernel_rfl)) (by unfold Func.isWrapper;first|(rw[if_pos (by decide+kernel)];kernel_rfl)|(rw[if_neg (by decide+kernel)];exact ⟨rfl,rfl⟩))
  (fun os started H enc _=>Wg os started H enc)
theorem lawCard_holds:Rows.MatchFindsCardSaid:=
 Claim7.holds_tied_plain_at .later [] [.data,.data,.pinned] true (true, "ff3b1766f6e6ac99f41e1628d4ff9bad5dc036d3bec380b43cc61596aae296f2") true
  Wi (fun _ h=>by cases h) (by kernel_rfl) (fun _ h=>by cases h) matchFinds_row_tie rfl ⟨rfl,rfl⟩ (by kernel_rfl) rfl
  (fun f fn hf hfn=>by
   obtain rfl:f=13:=Option.some.inj ((show Tryz.prog.funcNamed "locksmith/locksmithlaw14.MatchFinds" =some 13 by kernel_rfl).symm.trans hf)|>.symm
   obtain rfl:fn=Tryz.f13:=(Option.some.inj (Tryz.func13.symm.trans hfn)).symm
   exact ⟨by kernel_rfl,fun j t ht=>by
    rw[Tryz.params13] at ht
    have hm:t∈[22,22,22,3,3]:=by simpa using Array.mem_of_getElem? ht
    have hall:([22,22,22,3,3].all fun u=> !Tryz.prog.wantsStandIn u)=true:=by kernel_rfl
    exact (show Tryz.prog.wantsStandIn t=false by simpa using List.all_eq_true.1 hall t hm)⟩)
  (by kernel_rfl)
#print axioms lawCard_holds
end Go.Proofs.YtjhggnebkfpgcaaGreatDoor
