import Derived.Test.YtlljinebapfdaaaGreatDoorRows
import Derived.Test.YtlljinebapfdaaaGreatDoorCards
import Derived.Test.YtlljinebapfdaaaGreatDoorTie
import Derived.Test.YtlljinebapfdaaaGreatDoorQ4
import Derived.Test.YtlljinebapfdaaaGreatDoorQ5
import Derived.Test.YtlljinebapfdaaaGreatDoorQ6
import Derived.Test.YtlljinebapfdaaaGreatDoorQ7
import Derived.Test.YtlljinebapfdaaaGreatDoorG5
import Derived.ProofKit
import Derived.Lay
import Derived.SevenTiedAt
import Derived.KernelRfl
namespace Go.Proofs.YtlljinebapfdaaaGreatDoor
open Go.ChangeShapes Go.WideShapes Go.ChangeAt Go.RowKit
open Go.Proofs.Abs
theorem Tryz.own:ownKnob Tryz.prog.godebug=none:=by kernel_rfl
theorem Tryz.out:laidOutB Tryz.prog=true:=by kernel_rfl
theorem Pq {W:World} (_:laidMetH Tryz.prog Rows.mintKeysRow.laid W):Rel gl W (fun b=>b<W.heap.size) (fun _=>none) []:=by
 exact EZ fun g l hgl=>by cases hgl
set_option maxRecDepth 100000 in
theorem Pr (os:Os) (started:os.Started) (H:Type) (enc:TypeId × Value→H):
  ReturnsInHanded {} Tryz.checked os 3 .any (fun w args=>(Rows.mintKeysSpec.pre enc Tryz.prog Tryz.f3 [] false w args∧laidMetH Tryz.prog Rows.mintKeysRow.laid w)∧sizedMet enc Tryz.prog Tryz.f3 (OpenSpec.ofChange Rows.mintKeysSpec) false w args)
   (Rows.mintKeysSpec.post enc Tryz.prog Tryz.f3 false true false false):=by
 refine returnsInHanded_of_change_and (C:=Tryz.checked) (X:=fun w _=>laidMetH Tryz.prog Rows.mintKeysRow.laid w) (fun _ _ _ hh h=>h.of_heap hh) Tryz.own started (by kernel_rfl) Tryz.func3
  (ChangeSpec.witness_shaped (enc:=enc) (C:=Tryz.checked) (os:=os) (X:=fun w _=>laidMetH Tryz.prog Rows.mintKeysRow.laid w) false (World.laidAll Tryz.prog os Rows.mintKeysRow.laid) #[.slice none 0 0,.int .i64 0,.int .i64 0,.slice none 0 0,.int .i64 0] 8 (World.laidAll_os _ _ _)
   (World.shaped_of_ZipB (by kernel_rfl) (by kernel_rfl)) (by kernel_rfl) (by kernel_rfl) (by kernel_rfl)
   (by rw[MakeChecks.laidMetH_plain _ _ _ (by kernel_rfl)];exact laidMet_laidAll _ (by kernel_rfl) (by kernel_rfl))) ?_
 intro W base args ds gs before hval0 hW k1 k2 k3 k4
 have hX:laidMetH Tryz.prog Rows.mintKeysRow.laid W:=by first|exact k1|exact k2|exact k3|exact k4
 have hval:∀ (j:Nat) t v,Tryz.f3.params[j]? =some t→args[j]? =some v→Value.okWide Tryz.prog W .any base t v:=hval0
 have hW':=hW
 obtain ⟨p,q,hA0,hV,rfl,_,_⟩:=hW
 have hA:DataW.TrodAll enc Tryz.prog W 0 (fun _=>true) true Tryz.f3.params.toList args.toList ds p:=hA0
 rw[Tryz.params3] at hA hval
 obtain ⟨v0,w0,d0,y0,p0,q0,ha0,rfl,rfl,h0,hA0⟩:=trodAll_cons hA
 obtain ⟨v1,w1,d1,y1,p1,q1,ha1,rfl,rfl,h1,hA1⟩:=trodAll_cons hA0
 subst ha1
 obtain ⟨v2,w2,d2,y2,p2,q2,ha2,rfl,rfl,h2,hA2⟩:=trodAll_cons hA1
 subst ha2
 obtain ⟨v3,w3,d3,y3,p3,q3,ha3,rfl,rfl,h3,hA3⟩:=trodAll_cons hA2
 subst ha3
 obtain ⟨v4,w4,d4,y4,p4,q4,ha4,rfl,rfl,h4,hA4⟩:=trodAll_cons hA3
 subst ha4
 obtain ⟨rfl,rfl,rfl⟩:=trodAll_nil hA4
 obtain rfl:args= #[v0,v1,v2,v3,v4]:=by cases args;simp_all
 obtain ⟨rfl,rfl⟩:=trodVars_none hV
 obtain ⟨l0,g0,r0⟩:=Pp Tryz.underlying22 Tryz.underlying75 ⟨rfl,rfl⟩ ⟨rfl,rfl⟩ ⟨rfl,rfl⟩ ⟨rfl,rfl⟩ Tryz.underlying3 (by kernel_rfl) (by kernel_rfl) (hval 0 22 v0 rfl rfl) h0
 obtain ⟨n1,rfl,m1,x1⟩:=Abs.open_int Tryz.underlying3 (hval 1 3 v1 rfl rfl) h1
 obtain ⟨n2,rfl,m2,x2⟩:=Abs.open_int Tryz.underlying3 (hval 2 3 v2 rfl rfl) h2
 obtain ⟨l3,g3,r3⟩:∃l:List UInt8,l.length≤9223372036854775807∧Rep W (fun b=>b<W.heap.size) (fun _=>none) (.fsl false (aj l)) v3:=by
  rcases Abs.open_slice Tryz.underlying23 (FG Tryz.underlying5 (by kernel_rfl)) (hval 3 23 v3 rfl rfl) h3 with rfl|⟨ess,hr,hp,hl⟩
  ·exact ⟨[],by simp,Wk.nil.out _ _ _ _ .nilsl⟩
  ·obtain ⟨l,e1,e2⟩:=zK hp
   refine ⟨l,by rw[e2];exact hl, ?_⟩
   rw[e1] at hr
   exact hr
 obtain ⟨n4,rfl,m4,x4⟩:=Abs.open_int Tryz.underlying3 (hval 4 3 v4 rfl rfl) h4
 clear hA0 hval0
 simp only[List.append_nil] at hW'
 have hlt:∀x∈p0++(p1++(p2++(p3++(p4)))),x.block<W.heap.size:=fun x hx=>hW'.lt x (by simpa using hx)
 have hcalls:=(N5 l0 n1 n2 l3 n4 g3 OJ OD).calls (w:=W) (vs:= #[v0,.int .i64 n1,.int .i64 n2,v3,.int .i64 n4]) Tryz.func3 rfl (by kernel_rfl) (Pq hX) (.cons r0 (.cons (.int _ _) (.cons (.int _ _) (.cons r3 (.cons (.int _ _) .nil)))))
 refine hcalls.mono fun e W' ⟨he,hb⟩=> ?_
 subst he
 exact ⟨_,rfl,_,_,_,[],_,[],hW',trodAll_mk1 (shut_bool Tryz.underlying4 _),⟨p0,_,Below.trod Tryz.out (by kernel_rfl) (of_decide_eq_true (by kernel_rfl)) h0 hb (fun x hx=>hlt x (by simp[hx])),⟨p1,_,Below.trod Tryz.out (by kernel_rfl) (of_decide_eq_true (by kernel_rfl)) h1 hb (fun x hx=>hlt x (by simp[hx])),⟨p2,_,Below.trod Tryz.out (by kernel_rfl) (of_decide_eq_true (by kernel_rfl)) h2 hb (fun x hx=>hlt x (by simp[hx])),⟨p3,_,Below.trod Tryz.out (by kernel_rfl) (of_decide_eq_true (by kernel_rfl)) h3 hb (fun x hx=>hlt x (by simp[hx])),⟨p4,_,Below.trod Tryz.out (by kernel_rfl) (of_decide_eq_true (by kernel_rfl)) h4 hb (fun x hx=>hlt x (by simp[hx])),rfl,rfl⟩,rfl⟩,rfl⟩,rfl⟩,rfl⟩,rfl,hb.frame _,fun h=>by cases h⟩
theorem Ps:Rows.MintKeysSaid:=
 OpenClaim.holds_of_wide 3 Tryz.f3 rfl rfl rfl rfl rfl rfl rfl ⟨rfl,rfl,rfl,rfl,rfl⟩ rfl rfl rfl rfl rfl Pg Tryz.func3 facts
  Pk Pl
  (fun os started H enc _=>Pr os started H enc)
theorem lawCard_holds:Rows.MintKeysCardSaid:=
 Claim7.holds_tied_plain_at .later [] [.data,.data,.data,.data,.sentinel,.sentinel,.pinned] true (true, "ccbbd709ce53f2edf55136f2273781a233862d6b417ba2878ce9053e68469b34") true
  Ps (fun _ h=>by cases h) Pi (fun _ h=>by cases h) mintKeys_row_tie rfl ⟨rfl,rfl⟩ Ph rfl
  (fun f fn hf hfn=>by
   obtain rfl:f=3:=Option.some.inj (q_said.symm.trans hf)|>.symm
   obtain rfl:fn=Tryz.f3:=(Option.some.inj (Tryz.func3.symm.trans hfn)).symm
   exact ⟨Pj,fun j t ht=>by
    rw[Tryz.params3] at ht
    have hm:t∈[22,3,3,23,3]:=by simpa using Array.mem_of_getElem? ht
    have hall:([22,3,3,23,3].all fun u=> !Tryz.prog.wantsStandIn u)=true:=by kernel_rfl
    exact (show Tryz.prog.wantsStandIn t=false by simpa using List.all_eq_true.1 hall t hm)⟩)
  Po
#print axioms lawCard_holds
end Go.Proofs.YtlljinebapfdaaaGreatDoor
