import Derived.Test.YtjhggnebkfpgcaaGreatDoorRows
import Derived.Test.YtjhggnebkfpgcaaGreatDoorCards
import Derived.Test.YtjhggnebkfpgcaaGreatDoorTie
import Derived.Test.YtjhggnebkfpgcaaGreatDoorQ8
import Derived.Test.YtjhggnebkfpgcaaGreatDoorG5
import Derived.ProofKit
import Derived.Lib.LaidU8T
import Derived.Lay
import Derived.SevenTiedAt
import Derived.KernelRfl
namespace Go.Proofs.YtjhggnebkfpgcaaGreatDoor
open Go.ChangeShapes Go.WideShapes Go.ChangeAt Go.RowKit _root_.Go.Proofs.Tryz
open Go.Proofs.Abs
theorem Tryz.own:ownKnob Tryz.prog.godebug=none:=by kernel_rfl
theorem Tryz.out:laidOutB prog=true:=by kernel_rfl
theorem JS {W:World} {g off:Nat} {v:Value} (h:W.cell? ⟨g,off,none⟩=some v):g<W.heap.size:=by
 rcases Nat.lt_or_ge g W.heap.size with h'|h'
 ·exact h'
 ·have:W.heap[g]? =none:=by rw[Array.getElem?_eq_none (by omega)]
  simp[World.cell?,this] at h
theorem Yk {W:World} (h:laidMetH prog Rows.attrsChangesRow.laid W):Rel gl W (fun b=>b<W.heap.size) (fun _=>none) []:=by
 rw[MakeChecks.laidMetH_plain _ _ _ (by kernel_rfl)] at h;have hU:Lib.Utf8Tabs 1 2 W:=utf8Tabs_of_readsT (ρ:=Tryz.laysValid_ren) (U8Types.of196 Tryz.laysValid) ⟨by kernel_rfl,by kernel_rfl,by kernel_rfl,by kernel_rfl,by kernel_rfl,by kernel_rfl,by kernel_rfl⟩
  (by have:=Lib.laidMet.reads h (.tail _ (.tail _ (.head _)));exact (show Rows.laid_unicode_utf8_first=Lib.firstData by kernel_rfl)▸this) (by have:=Lib.laidMet.reads h (.head _);exact (show Rows.laid_unicode_utf8_acceptRanges=Lib.acceptData by kernel_rfl)▸this)
 obtain ⟨ps,⟨_,_,_,_,_,_,_,_,_,_,⟨g,t,cs,fuel,p,q,hg,ht,hv,hd,_,_⟩,_⟩,_,_⟩:=h
 obtain rfl:=Option.some.inj ((show Tryz.prog.globalNamed "locksmith/locksmithhand.names" =some 0 by kernel_rfl).symm.trans hg)
 obtain rfl:=Option.some.inj ((show (Tryz.prog.globals[0]?).map (·.type)=some 135 by kernel_rfl).symm.trans ht);have hcell:=LJ (l:=nameL) (n:=24) (e:=9) (by kernel_rfl) (by kernel_rfl) (by kernel_rfl) (by kernel_rfl) hd;have hat:∀ (j:Nat) s,nameL[j]? =some s→∃b:ByteArray,W.cell? ⟨0,j,none⟩=some (.string b)∧b.data.toList=s:=fun j s hj=>by
  obtain ⟨b,h1,h2⟩:=hcell j s hj;exact ⟨b,by rw[World.var?_cell hg hv j];exact h1,h2⟩
 have h0:0<W.heap.size:=by
  obtain ⟨b,h1,_⟩:=hat 0 _ rfl;rcases Nat.eq_zero_or_pos W.heap.size with h'|h'
  ·have:W.heap[0]? =none:=by rw[Array.getElem?_eq_none (by omega)]
   simp[World.cell?,this] at h1
  ·exact h'
 refine LI fun g l hgl=> ?_;unfold gl at hgl;split at hgl
 ·rename_i hz;have hz:g=0:=beq_iff.1 hz;subst hz;simp only[sInjQ] at hgl;subst hgl;refine ⟨h0,fun j x hx=> ?_⟩;rw[List.getElem?_map] at hx;simp only[Option.map_eq_some_iff] at hx;obtain ⟨s,hs,rfl⟩:=hx;obtain ⟨b,h1,h2⟩:=hat j s hs;exact ⟨_,h1,.str s b h2⟩
 split at hgl
 ·rename_i hz;have hz:g=1:=beq_iff.1 hz;subst hz;simp only[sInjQ] at hgl;subst hgl;refine ⟨JS (hU.1 0 (by omega)),fun j x hx=> ?_⟩;simp only[vD,List.getElem?_map,Option.map_eq_some_iff] at hx;obtain ⟨n,hn,rfl⟩:=hx;have hj:j<256:=by have:=(List.getElem?_eq_some_iff.1 hn).1;rw[show firL.length=256 by kernel_rfl] at this;exact this
  have he:=Yi j hj;rw[hn] at he;cases he;exact ⟨_,hU.1 j hj,.int _ _⟩
 split at hgl
 ·rename_i hz;have hz:g=2:=beq_iff.1 hz;subst hz;simp only[sInjQ] at hgl;subst hgl;refine ⟨JS (hU.2 0 (by omega)).1,fun j x hx=> ?_⟩;simp only[vD,List.getElem?_map,Option.map_eq_some_iff] at hx;obtain ⟨n,hn,rfl⟩:=hx;have hj:j<32:=by have:=(List.getElem?_eq_some_iff.1 hn).1;rw[show accL.length=32 by kernel_rfl] at this;exact this
  have hi:=Yj (j/2) (by omega);have hv:=hU.2 (j/2) (by omega);rcases Nat.mod_two_eq_zero_or_one j with h2|h2
  ·have e:2*(j/2)=j:=by omega
   rw[e,hn] at hi;rw[e] at hv;cases hi.1;exact ⟨_,hv.1,.int _ _⟩
  ·have e:2*(j/2)+1=j:=by omega
   rw[e,hn] at hi;rw[e] at hv;cases hi.2;exact ⟨_,hv.2,.int _ _⟩
 ·cases hgl
set_option maxRecDepth 100000 in
theorem Yl (os:Os) (started:os.Started) (H:Type) (enc:TypeId × Value→H):
  ReturnsInHanded {} Tryz.checked os 5 .any (fun w args=>(Rows.attrsChangesSpec.pre enc prog Tryz.f5 [] false w args∧laidMetH prog Rows.attrsChangesRow.laid w)∧sizedMet enc prog Tryz.f5 (OpenSpec.ofChange Rows.attrsChangesSpec) false w args)
   (Rows.attrsChangesSpec.post enc prog Tryz.f5 false true false false):=by
 refine returnsInHanded_of_change_and (C:=Tryz.checked) (X:=fun w _=>laidMetH prog Rows.attrsChangesRow.laid w) (fun _ _ _ hh h=>h.of_heap hh) Tryz.own started (by kernel_rfl) Tryz.func5
  (ChangeSpec.witness_shaped (enc:=enc) (C:=Tryz.checked) (os:=os) (X:=fun w _=>laidMetH prog Rows.attrsChangesRow.laid w) false (World.laidAll prog os Rows.attrsChangesRow.laid) #[.agg #[.int .i64 0,.int .i64 0,.int .i64 0,.int .i64 0],.slice none 0 0,.slice none 0 0,.int .i64 0,.slice none 0 0] 8 (World.laidAll_os _ _ _)
   (World.shaped_of_ZipB (by kernel_rfl) (by kernel_rfl)) (by kernel_rfl) (by kernel_rfl) (by kernel_rfl)
   (by rw[MakeChecks.laidMetH_plain _ _ _ (by kernel_rfl)];exact laidMet_laidAll _ (by kernel_rfl) (by kernel_rfl))) ?_
 intro W base args ds gs before hval0 hW k1 k2 k3 k4;have hX:laidMetH prog Rows.attrsChangesRow.laid W:=by first|exact k1|exact k2|exact k3|exact k4
 have hval:∀ (j:Nat) t v,Tryz.f5.params[j]? =some t→args[j]? =some v→Value.okWide prog W .any base t v:=hval0;have hW':=hW;obtain ⟨p,q,hA0,hV,rfl,_,_⟩:=hW;have hA:DataW.TrodAll enc prog W 0 (fun _=>true) true Tryz.f5.params.toList args.toList ds p:=hA0;rw[Tryz.params5] at hA hval;obtain ⟨v0,w0,d0,y0,p0,q0,ha0,rfl,rfl,h0,hA0⟩:=trodAll_cons hA;obtain ⟨v1,w1,d1,y1,p1,q1,ha1,rfl,rfl,h1,hA1⟩:=trodAll_cons hA0;subst ha1;obtain ⟨v2,w2,d2,y2,p2,q2,ha2,rfl,rfl,h2,hA2⟩:=trodAll_cons hA1;subst ha2;obtain ⟨v3,w3,d3,y3,p3,q3,ha3,rfl,rfl,h3,hA3⟩:=trodAll_cons hA2;subst ha3;obtain ⟨v4,w4,d4,y4,p4,q4,ha4,rfl,rfl,h4,hA4⟩:=trodAll_cons hA3;subst ha4;obtain ⟨rfl,rfl,rfl⟩:=trodAll_nil hA4;obtain rfl:args= #[v0,v1,v2,v3,v4]:=by cases args;simp_all
 obtain ⟨rfl,rfl⟩:=trodVars_none hV;obtain ⟨k0,a0,b0,c0,rfl⟩:=Abs.open_four Tryz.underlying42 rflTwoQ rflTwoQ rflTwoQ rflTwoQ Tryz.underlying3 (by kernel_rfl) (by kernel_rfl) (hval 0 42 v0 rfl rfl) h0;obtain ⟨l1,g1,r1⟩:=CK Tryz.underlying22 Tryz.underlying42 rflTwoQ rflTwoQ rflTwoQ rflTwoQ Tryz.underlying3 (by kernel_rfl) (by kernel_rfl) (hval 1 22 v1 rfl rfl) h1;obtain ⟨l2,g2,r2⟩:=CK Tryz.underlying22 Tryz.underlying42 rflTwoQ rflTwoQ rflTwoQ rflTwoQ Tryz.underlying3 (by kernel_rfl) (by kernel_rfl) (hval 2 22 v2 rfl rfl) h2;obtain ⟨n3,rfl,m3,x3⟩:=Abs.open_int Tryz.underlying3 (hval 3 3 v3 rfl rfl) h3;obtain ⟨l4,g4,r4⟩:=CK Tryz.underlying22 Tryz.underlying42 rflTwoQ rflTwoQ rflTwoQ rflTwoQ Tryz.underlying3 (by kernel_rfl) (by kernel_rfl) (hval 4 22 v4 rfl rfl) h4;clear hA0 hval0;simp only[List.append_nil] at hW';have hlt:∀x∈p0++(p1++(p2++(p3++(p4)))),x.block<W.heap.size:=fun x hx=>hW'.lt x (by simpa using hx);have hcalls:=(Yh ⟨k0,a0,b0,c0⟩ l1 l2 n3 l4).calls (w:=W) (vs:= #[.agg #[.int .i64 k0,.int .i64 a0,.int .i64 b0,.int .i64 c0],v1,v2,.int .i64 n3,v4]) Tryz.func5 rfl (by kernel_rfl) (Yk hX) (.cons (Rep.agg_iff.2 ⟨_,rfl,.cons (.int _ _) (.cons (.int _ _) (.cons (.int _ _) (.cons (.int _ _) .nil)))⟩) (.cons r1 (.cons r2 (.cons (.int _ _) (.cons r4 .nil)))));refine hcalls.mono fun e W' ⟨he,hb⟩=> ?_;subst he;exact ⟨_,rfl,_,_,_,[],_,[],hW',trodAll_mk1 (shut_bool Tryz.underlying4 _),⟨p0,_,Below.trod Tryz.out (by kernel_rfl) (of_decide_eq_true (by kernel_rfl)) h0 hb (fun x hx=>hlt x (by simp[hx])),⟨p1,_,Below.trod Tryz.out (by kernel_rfl) (of_decide_eq_true (by kernel_rfl)) h1 hb (fun x hx=>hlt x (by simp[hx])),⟨p2,_,Below.trod Tryz.out (by kernel_rfl) (of_decide_eq_true (by kernel_rfl)) h2 hb (fun x hx=>hlt x (by simp[hx])),⟨p3,_,Below.trod Tryz.out (by kernel_rfl) (of_decide_eq_true (by kernel_rfl)) h3 hb (fun x hx=>hlt x (by simp[hx])),⟨p4,_,Below.trod Tryz.out (by kernel_rfl) (of_decide_eq_true (by kernel_rfl)) h4 hb (fun x hx=>hlt x (by simp[hx])),rfl,rfl⟩,rfl⟩,rfl⟩,rfl⟩,rfl⟩,rfl,hb.frame _,fun h=>by cases h⟩
theorem Ym:Rows.AttrsChangesSaid:=
 OpenClaim.holds_of_wide 5 Tryz.f5 rfl rfl rfl rfl rfl rfl rfl ⟨rfl,rfl,rfl,rfl,rfl⟩ rfl rfl rfl rfl rfl (by kernel_rfl) Tryz.func5 (by kernel_rfl)
  (of_decide_eq_true (by kernel_rfl)) (by unfold Func.isWrapper;first|(rw[if_pos (by decide+kernel)];kernel_rfl)|(rw[if_neg (by decide+kernel)];exact rflTwoQ))
  (fun os started H enc _=>Yl os started H enc)
theorem lawCard_holds:Rows.AttrsChangesCardSaid:=
 Claim7.holds_tied_plain_at .later [] [.data,.data,.pinned] true (true, "ff3b1766f6e6ac99f41e1628d4ff9bad5dc036d3bec380b43cc61596aae296f2") true
  Ym (fun _ h=>by cases h) (by kernel_rfl) (fun _ h=>by cases h) attrsChanges_row_tie rfl rflTwoQ (by kernel_rfl) rfl
  (fun f fn hf hfn=>by
   obtain rfl:f=5:=Option.some.inj ((show Tryz.prog.funcNamed "locksmith/locksmithlaw13.AttrsChanges" =some 5 by kernel_rfl).symm.trans hf)|>.symm
   obtain rfl:fn=Tryz.f5:=(Option.some.inj (Tryz.func5.symm.trans hfn)).symm;exact ⟨by kernel_rfl,fun j t ht=>by
    rw[Tryz.params5] at ht;have hm:t∈[42,22,22,3,22]:=by simpa using Array.mem_of_getElem? ht
    have hall:([42,22,22,3,22].all fun u=> !Tryz.prog.wantsStandIn u)=true:=by kernel_rfl
    exact (show Tryz.prog.wantsStandIn t=false by simpa using List.all_eq_true.1 hall t hm)⟩)
  (by kernel_rfl)
#print axioms lawCard_holds
end Go.Proofs.YtjhggnebkfpgcaaGreatDoor
