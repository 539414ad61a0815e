import Derived.Test.YtlljinebapfdaaaGreatDoorG2
import Derived.Still
import Derived.LoopN
import Derived.Laws.Externs
import Derived.Lib.Bytealg
import Derived.KernelRfl
namespace Go.Proofs.Abs
open Go
theorem Mods.hget:∀ (m:Mods) (h:ab) (k:Nat),(∀p∈m,p.1≠k)→Abs.hget (Mods.app m h) k=Abs.hget h k
 |[],_,_,_=>rfl
 |(j,b)::t,h,k,hk=>by
  simp only[Mods.app]
  rw[Mods.hget t _ k (fun p hp=>hk p (by simp[hp])),nd _ _ (Ne.symm (hk (j,b) (by simp)))]
theorem Mods.app_hset:∀ (m:Mods) (h:ab) (k:Nat) (b:Option Blk),(∀p∈m,p.1≠k)→Mods.app m (bU h k b)=bU (Mods.app m h) k b
 |[],_,_,_,_=>rfl
 |(j,c)::t,h,k,b,hk=>by
  simp only[Mods.app]
  rw[Do h b c (Ne.symm (hk (j,c) (by simp))),Mods.app_hset t _ k b (fun p hp=>hk p (by simp[hp]))]
theorem Mods.comm:∀ (m n:Mods) (h:ab),(∀p∈m,∀q∈n,p.1≠q.1)→Mods.app n (Mods.app m h)=Mods.app m (Mods.app n h)
 |[],_,_,_=>rfl
 |(j,c)::t,n,h,hd=>by
  simp only[Mods.app]
  rw[Mods.comm t n _ (fun p hp=>hd p (by simp[hp])),Mods.app_hset n h j c (fun q hq=>Ne.symm (hd (j,c) (by simp) q hq))]
def Eu (f:ab→Nat→Option (AV × ab × Nat × Foot)) (h:ab) (nx:Nat) (v:AV) (h':ab) (nx':Nat) (ft:Foot):Prop:=
 ft.all=false→nx'=nx∧∃m:Mods,h'=Mods.app m h∧(∀p∈m,p.1∈ft.w)∧∀h2 nx2,(∀k∈ft.r++ft.w,hget h2 k=hget h k)→(nx2=nx∨nx∉ft.r)→f h2 nx2=some (v,Mods.app m h2,nx2,ft)
def Ew (f:ab→Nat→Option (AV × ab × Nat × Foot)) (h:ab) (nx:Nat) (v:AV) (h':ab) (nx':Nat) (ft:Foot):Prop:=
 ft.all=true→∀n l,ft.w=n::l→n=nx∧nx≤nx'∧∃m:Mods,h'=Mods.app m h∧(∀p∈m,p.1∈l∨nx≤p.1)∧∀h2,(∀k∈ft.r++l,hget h2 k=hget h k)→f h2 nx=some (v,Mods.app m h2,nx',ft)
def Loc (f:ab→Nat→Option (AV × ab × Nat × Foot)) (h:ab) (nx:Nat) (v:AV) (h':ab) (nx':Nat) (ft:Foot):Prop:=
 Eu f h nx v h' nx' ft∧Ew f h nx v h' nx' ft
theorem Loc.one {f:ab→Nat→Option (AV × ab × Nat × Foot)} {h:ab} {nx:Nat} {v:AV} {h':ab} {nx':Nat} {ft:Foot} (ha:ft.all=false)
  (hl:nx'=nx∧∃m:Mods,h'=Mods.app m h∧(∀p∈m,p.1∈ft.w)∧∀h2 nx2,(∀k∈ft.r++ft.w,hget h2 k=hget h k)→f h2 nx2=some (v,Mods.app m h2,nx2,ft)):Loc f h nx v h' nx' ft:=
 ⟨fun _=>⟨hl.1,hl.2.choose,hl.2.choose_spec.1,hl.2.choose_spec.2.1,fun h2 nx2 hk _=>hl.2.choose_spec.2.2 h2 nx2 hk⟩,fun h=>by rw[ha] at h;cases h⟩
theorem Loc.any {f:ab→Nat→Option (AV × ab × Nat × Foot)} {h:ab} {nx:Nat} {v:AV} {h':ab} {nx':Nat} {ft:Foot} (ha:ft.all=true) (hw:ft.w=[]):Loc f h nx v h' nx' ft:=
 ⟨fun h=>(by rw[ha] at h;cases h),fun _ n l h=>by rw[hw] at h;cases h⟩
def bp (call:aI):Prop:=∀f args id h nx v h' nx' ft,call f args id h nx=some (v,h',nx',ft)→Loc (call f args id) h nx v h' nx' ft
theorem Ex {call:aI} (hc:bp call) {id:Nat}:∀ (d:Nat) (e:Eff) {h:ab} {nx:Nat} {v:AV} {h':ab} {nx':Nat} {ft:Foot},aM call id d e h nx=some (v,h',nx',ft)→Loc (aM call id d e) h nx v h' nx' ft:=by
  intro d
  induction d with
  | zero=>
    intro e h nx v h' nx' ft hr
    exact base 0 e hr (by intro i k he;subst he;simp[aM] at hr)
  | succ d ih =>
    intro e h nx v h' nx' ft hr
    by_cases hread:∃i k,e= .read i k
    · obtain ⟨i,k,rfl⟩:=hread
      simp only[aM] at hr
      split at hr
      · rename_i b hb
        split at hr
        · rename_i e' he'
          split at hr
          · rename_i v1 h1 n1 f1 hr1
            simp only[Option.some.injEq,Prod.mk.injEq] at hr
            obtain ⟨rfl,rfl,rfl,rfl⟩:=hr
            obtain ⟨l1,l2⟩:=ih e' hr1
            refine ⟨fun hall=> ?_,fun hall n l hw=> ?_⟩
            · obtain ⟨e1,m,e2,e3,e4⟩:=l1 hall
              refine ⟨e1,m,e2,e3,fun h2 nx2 hk hnx=> ?_⟩
              have hi:hget h2 i=some b:=by rw[hk i (by simp),hb]
              have:=e4 h2 nx2 (fun k hk'=>hk k (by simp only[List.mem_append] at hk'⊢;rcases hk' with h|h;exact .inl (List.mem_cons_of_mem _ h);exact .inr h)) (hnx.imp (fun h=>h) fun h hm=>h (by simp[hm]))
              simp only[aM,hi,he',this]
            · obtain ⟨e1,e0,m,e2,e3,e4⟩:=l2 hall n l hw
              refine ⟨e1,e0,m,e2,e3,fun h2 hk=> ?_⟩
              have hi:hget h2 i=some b:=by rw[hk i (by simp),hb]
              have:=e4 h2 (fun k hk'=>hk k (by simp only[List.mem_append] at hk'⊢;rcases hk' with h|h;exact .inl (List.mem_cons_of_mem _ h);exact .inr h))
              simp only[aM,hi,he',this]
          · simp at hr
        · simp at hr
      · simp at hr
    · exact base (d+1) e hr (fun i k he=>hread ⟨i,k,he⟩)
 where
  base {h : ab} {nx:Nat} {v:AV} {h':ab} {nx':Nat} {ft:Foot} (d:Nat) (e:Eff) (hr:aM call id d e h nx=some (v,h',nx',ft)) (hn:∀i k,e≠ .read i k):Loc (aM call id d e) h nx v h' nx' ft:=by
    cases e with
    | val u=>
      have:v=u∧h'=h∧nx'=nx∧ft=⟨false,[],[]⟩:=by cases d<;>(simp only[aM,Option.some.injEq,Prod.mk.injEq] at hr;obtain ⟨rfl,rfl,rfl,rfl⟩:=hr;exact ⟨rfl,rfl,rfl,rfl⟩)
      obtain ⟨rfl,rfl,rfl,rfl⟩:=this
      exact .one rfl ⟨rfl,[],rfl,by simp,fun h2 nx2 _=>by cases d<;>rfl⟩
    | skip=>
      have:v=dW∧h'=h∧nx'=nx∧ft=⟨false,[],[]⟩:=by cases d<;>(simp only[aM,Option.some.injEq,Prod.mk.injEq] at hr;obtain ⟨rfl,rfl,rfl,rfl⟩:=hr;exact ⟨rfl,rfl,rfl,rfl⟩)
      obtain ⟨rfl,rfl,rfl,rfl⟩:=this
      exact .one rfl ⟨rfl,[],rfl,by simp,fun h2 nx2 _=>by cases d<;>rfl⟩
    |read i k=>exact absurd rfl (hn i k)
    | upd i k =>
      have:∃b b',hget h i=some b∧k b=some (b',v)∧h'=aY h i b'∧nx'=nx∧ft=⟨false,[],[i]⟩:=by
        cases d<;>
        · simp only[aM] at hr
          split at hr
          · rename_i b hb
            split at hr
            · rename_i b' u hk
              simp only[Option.some.injEq,Prod.mk.injEq] at hr
              obtain ⟨rfl,rfl,rfl,rfl⟩:=hr
              exact ⟨b,b',hb,hk,rfl,rfl,rfl⟩
            · simp at hr
          · simp at hr
      obtain ⟨b,b',hb,hk,rfl,rfl,rfl⟩:=this
      exact .one rfl ⟨rfl,[(i,some b')],rfl,by simp,fun h2 nx2 hh=>by
        have hi:hget h2 i=some b:=by rw[hh i (by simp),hb]
        cases d<;>(simp only[aM,hi,hk];rfl)⟩
    | new b k=>
      have:v=k id∧h'=aY h id b∧nx'=nx∧ft=⟨false,[],[id]⟩:=by cases d<;>(simp only[aM,Option.some.injEq,Prod.mk.injEq] at hr;obtain ⟨rfl,rfl,rfl,rfl⟩:=hr;exact ⟨rfl,rfl,rfl,rfl⟩)
      obtain ⟨rfl,rfl,rfl,rfl⟩:=this
      exact .one rfl ⟨rfl,[(id,some b)],rfl,by simp,fun h2 nx2 _=>by cases d<;>rfl⟩
    | repl i k=>
      have:∃b b' u,hget h i=some b∧k b=some (b',u)∧v=u id∧h'=aY (aZ h i) id b'∧nx'=nx∧ft=⟨false,[],[i,id]⟩:=by
        cases d<;>
        · simp only[aM] at hr
          split at hr
          · rename_i b hb
            split at hr
            · rename_i b' u hk
              simp only[Option.some.injEq,Prod.mk.injEq] at hr
              obtain ⟨rfl,rfl,rfl,rfl⟩:=hr
              exact ⟨b,b',u,hb,hk,rfl,rfl,rfl,rfl⟩
            · simp at hr
          · simp at hr
      obtain ⟨b,b',u,hb,hk,rfl,rfl,rfl,rfl⟩:=this
      exact .one rfl ⟨rfl,[(i,none),(id,some b')],rfl,by simp,fun h2 nx2 hh=>by
        have hi:hget h2 i=some b:=by rw[hh i (by simp),hb]
        cases d<;>(simp only[aM,hi,hk];rfl)⟩
    | shut i k=>
      have:∃b,hget h i=some b∧k b=some v∧h'=aZ h i∧nx'=nx∧ft=⟨false,[],[i]⟩:=by
        cases d<;>
        · simp only[aM] at hr
          split at hr
          · rename_i b hb
            split at hr
            · rename_i u hk
              simp only[Option.some.injEq,Prod.mk.injEq] at hr
              obtain ⟨rfl,rfl,rfl,rfl⟩:=hr
              exact ⟨b,hb,hk,rfl,rfl,rfl⟩
            · simp at hr
          · simp at hr
      obtain ⟨b,hb,hk,rfl,rfl,rfl⟩:=this
      exact .one rfl ⟨rfl,[(i,none)],rfl,by simp,fun h2 nx2 hh=>by
        have hi:hget h2 i=some b:=by rw[hh i (by simp),hb]
        cases d<;>(simp only[aM,hi,hk];rfl)⟩
    | call f args=>
      have:call f args id h nx=some (v,h',nx',ft):=by cases d<;>simpa [aM] using hr
      obtain ⟨l1,l2⟩:=hc f args id h nx v h' nx' ft this
      refine ⟨fun hall=> ?_,fun hall n l hw=> ?_⟩
      · obtain ⟨e1,m,e2,e3,e4⟩:=l1 hall
        exact ⟨e1,m,e2,e3,fun h2 nx2 hh hx=>by cases d<;>simpa [aM] using e4 h2 nx2 hh hx⟩
      · obtain ⟨e1,e0,m,e2,e3,e4⟩:=l2 hall n l hw
        exact ⟨e1,e0,m,e2,e3,fun h2 hh=>by cases d<;>simpa [aM] using e4 h2 hh⟩
theorem memN_iff:∀ {l:List Nat} {x:Nat},dD l x=true↔x∈l
 |[],x=>by simp[dD]
 | a::t,x=>by
  simp only[dD]
  by_cases h:a=x
  ·subst h;simp
  ·rw[beq_false_iff.2 h]
   simp only[List.mem_cons,memN_iff (l:=t)]
   exact ⟨fun h'=> .inr h',fun h'=>h'.resolve_left (Ne.symm h)⟩
theorem kh:∀ {l m:List Nat},j3 l m=true→∀x∈l,x∉m
 |[],_,_,_,hx=>by cases hx
 |a::t,m,h,x,hx=>by
  simp only[j3,Bool.and_eq_true,Bool.not_eq_true'] at h
  rcases List.mem_cons.1 hx with rfl|hx
  ·intro hm;rw[memN_iff.2 hm] at h;cases h.1
  ·exact kh h.2 x hx
theorem s6 {f:Foot} (h:f.none=true):f.all=false∧f.r=[]∧f.w=[]:=by
 simp only[Foot.none,Bool.and_eq_true,Bool.not_eq_true',List.isEmpty_iff] at h
 exact ⟨h.1.1,h.1.2,h.2⟩
theorem Ey {f g:ab→Nat→Option (AV × ab × Nat × Foot)} {h h1 h2:ab} {nx n1 n2:Nat} {v u:AV} {fi fj:Foot} (hf:f h nx=some (v,h1,n1,fi)) (hg:g h1 n1=some (u,h2,n2,fj))
  (lf:Loc f h nx v h1 n1 fi) (lg:Loc g h1 n1 u h2 n2 fj) (hc:fi.compat fj=true):∃h1' n1',g h nx=some (u,h1',n1',fj)∧f h1' n1'=some (v,h2,n2,fi):=by
 by_cases hni:fi.none=true
 ·obtain ⟨a1,a2,a3⟩:=s6 hni
  obtain ⟨e1,m,e2,e3,e4⟩:=lf.1 a1
  have hm:m=[]:=by
   cases m with
   |nil=>rfl
   |cons p t=>have:=e3 p (by simp);rw[a3] at this;cases this
  subst hm
  simp only[Mods.app] at e2
  subst e2;subst e1
  exact ⟨h2,n2,hg,by have:=e4 h2 n2 (by simp[a2,a3]) (.inr (by simp[a2]));simpa [Mods.app] using this⟩
 ·by_cases hnj:fj.none=true
  ·obtain ⟨a1,a2,a3⟩:=s6 hnj
   obtain ⟨e1,m,e2,e3,e4⟩:=lg.1 a1
   have hm:m=[]:=by
    cases m with
    |nil=>rfl
    |cons p t=>have:=e3 p (by simp);rw[a3] at this;cases this
   subst hm
   simp only[Mods.app] at e2
   subst e2;subst e1
   exact ⟨h,nx,by have:=e4 h nx (by simp[a2,a3]) (.inr (by simp[a2]));simpa [Mods.app] using this,hf⟩
  ·simp only[Foot.compat,Bool.or_eq_true,hni,hnj,false_or,Bool.false_eq_true] at hc
   split at hc
   case h_2 c1 c2=>
    unfold Foot.apart at hc
    split at hc
    case h_2=>cases hc
    rename_i n0 l0 hw
    simp only[Bool.and_eq_true] at hc
    obtain ⟨⟨b1,b2⟩,c3,c4⟩:=hc
    obtain ⟨e1,m,e2,e3,e4⟩:=lf.1 c1
    obtain ⟨k1,k0,n,k2,k3,k4⟩:=lg.2 c2 n0 l0 hw
    subst e2;subst k2;subst e1;subst k1
    have d1:=kh c3
    have d2:=kh c4
    have hlow:∀k∈fi.r++fi.w,k<n0:=fun k hk=>by
     rcases List.mem_append.1 hk with h|h
     ·exact ia b1 k h
     ·exact ia b2 k h
    have hnp:∀p∈n,∀k∈fi.r++fi.w,p.1≠k:=fun p hp k hk e=>by
     subst e
     rcases k3 p hp with h'|h'
     ·rcases List.mem_append.1 hk with h|h
      ·exact d2 _ h' h
      ·exact d1 _ h (List.mem_append_right _ h')
     ·have:=hlow _ hk;omega
    have hmp:∀p∈m,∀k∈fj.r++l0,p.1≠k:=fun p hp k hk e=>by
     subst e;exact d1 _ (e3 p hp) hk
    refine ⟨Mods.app n h,_,k4 h (fun k hk=>(Mods.hget m h k (fun p hp=>hmp p hp k hk)).symm), ?_⟩
    rw[Mods.comm m n h (fun p hp q hq e=>hnp q hq p.1 (List.mem_append_right _ (e3 p hp)) e.symm)]
    exact e4 (Mods.app n h) _ (fun k hk=>Mods.hget n h k (fun p hp=>hnp p hp k hk)) (.inr fun hm=>by have:=ia b1 _ hm;omega)
   case h_3 c1 c2=>
    unfold Foot.apart at hc
    split at hc
    case h_2=>cases hc
    rename_i n0 l0 hw
    simp only[Bool.and_eq_true] at hc
    obtain ⟨⟨b1,b2⟩,c3,c4⟩:=hc
    obtain ⟨e1,e0,m,e2,e3,e4⟩:=lf.2 c1 n0 l0 hw
    obtain ⟨k1,n,k2,k3,k4⟩:=lg.1 c2
    subst e2;subst k2;subst e1;subst k1
    have d1:=kh c3
    have d2:=kh c4
    have hlow:∀k∈fj.r++fj.w,k<n0:=fun k hk=>by
     rcases List.mem_append.1 hk with h|h
     ·exact ia b1 k h
     ·exact ia b2 k h
    have hmp:∀p∈m,∀k∈fj.r++fj.w,p.1≠k:=fun p hp k hk e=>by
     subst e
     rcases e3 p hp with h'|h'
     ·rcases List.mem_append.1 hk with h|h
      ·exact d2 _ h' h
      ·exact d1 _ h (List.mem_append_right _ h')
     ·have:=hlow _ hk;omega
    have hnp:∀p∈n,∀k∈fi.r++l0,p.1≠k:=fun p hp k hk e=>by
     subst e;exact d1 _ (k3 p hp) hk
    refine ⟨Mods.app n h,_,k4 h n0 (fun k hk=>(Mods.hget m h k (fun p hp=>hmp p hp k hk)).symm) (.inr fun hm=>by have:=ia b1 _ hm;omega), ?_⟩
    rw[Mods.comm m n h (fun p hp q hq e=>hmp p hp q.1 (List.mem_append_right _ (k3 q hq)) e)]
    exact e4 (Mods.app n h) (fun k hk=>Mods.hget n h k (fun p hp=>hnp p hp k hk))
   case h_4=>cases hc
   rename_i c1 c2
   simp only[Bool.and_eq_true] at hc
   obtain ⟨c3,c4⟩:=hc
   obtain ⟨e1,m,e2,e3,e4⟩:=lf.1 c1
   obtain ⟨k1,n,k2,k3,k4⟩:=lg.1 c2
   subst e2;subst k2;subst e1;subst k1
   have d1:=kh c3
   have d2:=kh c4
   have hnp:∀p∈n,∀k∈fi.r++fi.w,p.1≠k:=fun p hp k hk e=>by
    subst e
    rcases List.mem_append.1 hk with h|h
    ·exact d2 _ (k3 p hp) h
    ·exact d1 _ h (List.mem_append_right _ (k3 p hp))
   have hmp:∀p∈m,∀k∈fj.r++fj.w,p.1≠k:=fun p hp k hk e=>by
    subst e;exact d1 _ (e3 p hp) hk
   refine ⟨Mods.app n h,_,k4 h _ (fun k hk=>(Mods.hget m h k (fun p hp=>hmp p hp k hk)).symm) (.inl rfl), ?_⟩
   rw[Mods.comm m n h (fun p hp q hq=>hmp p hp q.1 (List.mem_append_right _ (k3 q hq)))]
   exact e4 (Mods.app n h) _ (fun k hk=>Mods.hget n h k (fun p hp=>hnp p hp k hk)) (.inl rfl)
end Go.Proofs.Abs
/- Two operations in either order. -/
namespace Go.Proofs.Abs
open Go
section
variable {P:Program} {G:aF} {call:aI}
theorem pr {ev ev':Operand→Option AV}:∀ {l:List Operand},(∀x∈l,ev x=ev' x)→eN ev l=eN ev' l
 |[],_=>rfl
 |x::t,h=>by
  simp only[eN]
  rw[h x (by simp),pr (l:=t) (fun y hy=>h y (by simp[hy]))]
theorem pt {ev ev':Operand→Option AV}:∀ {l:List (Nat × Operand)},(∀p∈l,ev p.2=ev' p.2)→gJ ev l=gJ ev' l
 |[],_=>rfl
 |(i,x)::t,h=>by
  simp only[gJ]
  rw[h (i,x) (by simp),pt (l:=t) (fun y hy=>h y (by simp[hy]))]
theorem s7 {ev ev':Operand→Option AV} {x:Option Operand} (h:∀y,x=some y→ev y=ev' y):em ev x=em ev' x:=by
 cases x with
 |none=>rfl
 |some y=>simp only[em,h y rfl]
theorem xP {ev ev':Operand→Option AV} {o:Oper} (h:∀x∈o.op.operands.toList,ev x=ev' x):a7 P G ev o=a7 P G ev' o:=by
 cases hop:o.op<;>simp only[a7,hop]<;>rw[hop] at h<;>simp only[Op.operands] at h
 case move x=>rw[h x (by simp)]
 case assign x=>rw[h x (by simp)]
 case pick c a b=>simp only[o1];rw[h c (by simp),h a (by simp),h b (by simp)]
 case box t x=>simp only[e1];rw[h x (by simp)]
 case build t ps=>
  simp only[o2]
  rw[pt (fun p hp=>h p.2 (by simp;exact ⟨p.1,by simpa using hp⟩))]
 case buildSlice t n ps=>
  simp only[ll]
  rw[pt (fun p hp=>h p.2 (by simp;exact ⟨p.1,by simpa using hp⟩))]
 case load t x=>simp only[e1];rw[h x (by simp)]
 case store t x y=>simp only[e2];rw[h x (by simp),h y (by simp)]
 case nilCheck x=>simp only[e1];rw[h x (by simp)]
 case binOp op t x y t'=>simp only[e2];rw[h x (by simp),h y (by simp)]
 case unOp op t x=>simp only[e1];rw[h x (by simp)]
 case convert s d x=>simp only[e1];rw[h x (by simp)]
 case makeInterface t x=>simp only[sp];rw[h x (by simp)]
 case makeFunc fn x y=>
  simp only[sr]
  rw[pr (l:=x.toList) (fun z hz=>h z (by simp;exact .inl (by simpa using hz))),pr (l:=y.toList) (fun z hz=>h z (by simp;exact .inr (by simpa using hz)))]
 case makeMap t r=>cases r<;>rfl
 case makeSlice t x y=>simp only[e2];rw[h x (by simp),h y (by simp)]
 case slice t x lo hi mx=>
  simp only[m5]
  rw[h x (by simp),s7 (x:=lo) (fun y hy=>h y (by subst hy;simp)),s7 (x:=hi) (fun y hy=>h y (by subst hy;simp)),s7 (x:=mx) (fun y hy=>h y (by subst hy;simp))]
 case fieldAddr t x f=>simp only[e1];rw[h x (by simp)]
 case field t x f=>simp only[ss];rw[h x (by simp)]
 case indexAddr t x y=>simp only[e2];rw[h x (by simp),h y (by simp)]
 case index t x y=>simp only[e2];rw[h x (by simp),h y (by simp)]
 case sliceToArrayPointer t x=>simp only[e1];rw[h x (by simp)]
 case lookup t x y ok=>simp only[e2];rw[h x (by simp),h y (by simp)]
 case mapUpdate t x y z=>simp only[e3];rw[h x (by simp),h y (by simp),h z (by simp)]
 case typeAssert x t t' ok=>simp only[e1];rw[h x (by simp)]
 case extract x i=>simp only[o3];rw[h x (by simp)]
 case range t x=>simp only[e1];rw[h x (by simp)]
 case next x b=>simp only[e1];rw[h x (by simp)]
 case entry x=>simp only[e1];rw[h x (by simp)]
 case call c=>
  simp only[f6]
  rw[pr (l:=c.args.toList) (fun z hz=>h z (by simp only[Call.operands];cases c.callee<;>simp<;>simp_all))]
  cases hcc:c.callee with
  |builtin b=>rfl
  |value f=>simp only[];rw[h f (by simp[Call.operands,hcc])]
  |invoke r m=>simp only[];rw[h r (by simp[Call.operands,hcc])]
theorem Ez {ops:List Oper} {ev ev':Operand→Option AV} {o:Oper} (h:∀x∈o.op.operands.toList,ev x=ev' x):bE P G ops ev o=bE P G ops ev' o:=by
 unfold bE
 split
 ·rename_i t n ps d hop hd
  split
  ·simp only[so,ll]
   rw[pt (fun p hp=>h p.2 (by rw[hop];simp[Op.operands];exact ⟨p.1,by simpa using hp⟩))]
  ·exact xP h
 ·exact xP h
noncomputable def je (P:Program) (G:aF) (call:aI) (ops:List Oper) (id:Nat) (o:Oper) (slots:Tr):Option (ab→Nat→Option (AV × ab × Nat × Foot)):=
 match cw ops o slots with
 |some true=>match bE P G ops (aS slots) o with
  |some e=>some (aM call id 2 e)
  |none=>none
 |some false=>some fun h nx=>some (dW,h,nx,⟨false,[],[]⟩)
 |none=>none
theorem stepA_iff {ops:List Oper} {id:Nat} {o:Oper} {s s':St} {ft:Foot}:
  cQ P G call ops id o s=some (s',ft)↔∃f v h nx,je P G call ops id o s.slots=some f∧f s.heap s.nx=some (v,h,nx,ft)∧s'=⟨bM s.n s.slots o.dst v,h,nx,s.n⟩:=by
 unfold cQ je
 constructor
 ·intro h
  split at h
  ·rename_i hw
   split at h
   ·rename_i e he
    split at h
    ·rename_i v h' nx' ft' hr
     simp only[Option.some.injEq,Prod.mk.injEq] at h
     obtain ⟨rfl,rfl⟩:=h
     exact ⟨_,v,h',nx',by simp[hw,he],hr,rfl⟩
    ·simp at h
   ·simp at h
  ·rename_i hw
   simp only[Option.some.injEq,Prod.mk.injEq] at h
   obtain ⟨rfl,rfl⟩:=h
   exact ⟨_,dW,s.heap,s.nx,by simp[hw];rfl,rfl,rfl⟩
  ·simp at h
 ·rintro ⟨f,v,h,nx,hf,hr,rfl⟩
  split at hf
  ·rename_i hw
   split at hf
   ·rename_i e he
    simp only[Option.some.injEq] at hf;subst hf
    simp[hw,he,hr]
   ·simp at hf
  ·rename_i hw
   simp only[Option.some.injEq] at hf;subst hf
   simp only[Option.some.injEq,Prod.mk.injEq] at hr
   obtain ⟨rfl,rfl,rfl,rfl⟩:=hr
   simp[hw]
  ·simp at hf
theorem xQ (hc:bp call) {ops:List Oper} {id:Nat} {o:Oper} {slots:Tr} {f:ab→Nat→Option (AV × ab × Nat × Foot)} (hf:je P G call ops id o slots=some f) {h:ab} {nx:Nat} {v:AV} {h':ab} {nx':Nat} {ft:Foot}
  (hr:f h nx=some (v,h',nx',ft)):Loc f h nx v h' nx' ft:=by
 unfold je at hf
 split at hf
 ·split at hf
  ·simp only[Option.some.injEq] at hf;subst hf
   exact Ex hc 2 _ hr
  ·simp at hf
 ·simp only[Option.some.injEq] at hf;subst hf
  simp only[Option.some.injEq,Prod.mk.injEq] at hr
  obtain ⟨rfl,rfl,rfl,rfl⟩:=hr
  exact .one rfl ⟨rfl,[],rfl,by simp,fun _ _ _=>rfl⟩
 ·simp at hf
theorem xR {ops:List Oper} {id:Nat} {o:Oper} {s s':Tr} (h:∀t∈j5 ops o,s.get t=s'.get t):je P G call ops id o s=je P G call ops id o s':=by
 have hw:cw ops o s=cw ops o s':=by
  unfold cw
  cases hg:o.guard with
  |none=>rfl
  | some p=>
   obtain ⟨j,want⟩:=p
   simp only
   cases hj:cg ops j with
   |none=>rfl
   | some g=>
    simp only
    cases hd:g.dst with
    |none=>rfl
    |some d=>
     simp only
     rw[h d (by simp[j5,hg,hj,hd])]
 have he:bE P G ops (aS s) o=bE P G ops (aS s') o:=Ez fun x hx=>by
  cases x with
  |tmp t=>
   refine h t ?_
   simp only[j5,List.mem_append]
   exact .inl (List.mem_filterMap.2 ⟨.tmp t,hx,rfl⟩)
  |_=>rfl
 unfold je
 rw[hw,he]
theorem xS {n:Nat} {s:Tr} {dst:Option Tmp} {v:AV} {t:Nat} (h:dst≠some t):(bM n s dst v).get t=s.get t:=by
 cases dst with
 |none=>rfl
 |some d=>
  simp only[bM]
  split
  ·exact Tr.get_set_ne 12 s v (fun e=>h (by rw[e]))
  ·rfl
theorem EA {n:Nat} {s:Tr} {x y:Option Tmp} {v u:AV} (h:∀d,x=some d→y≠some d):bM n (bM n s x v) y u=bM n (bM n s y u) x v:=by
 cases x with
 |none=>rfl
 | some d=>
  cases y with
  |none=>rfl
  |some e=>
   have hne:d≠e:=fun he=>h d rfl (by rw[he])
   simp only[bM]
   cases Nat.blt d n<;>cases Nat.blt e n<;>first|rfl|exact Tr.set_comm 12 s v u hne
theorem EB {ops:List Oper} {x y:Oper} (h:j6 ops x y=true):
  (∀d,x.dst=some d→d∉j5 ops y)∧(∀d,x.dst=some d→y.dst≠some d)∧(∀d,y.dst=some d→d∉j5 ops x):=by
 unfold j6 at h
 simp only[Bool.and_eq_true] at h
 obtain ⟨h1,h2⟩:=h
 refine ⟨fun d hd hm=> ?_,fun d hd hy=> ?_,fun d hd hm=> ?_⟩
 ·rw[hd] at h1
  simp only[Bool.and_eq_true,Bool.not_eq_true'] at h1
  rw[memN_iff.2 hm] at h1;cases h1.1
 ·rw[hd,hy] at h1
  simp at h1
 ·rw[hd] at h2
  simp only[Bool.not_eq_true'] at h2
  rw[memN_iff.2 hm] at h2;cases h2
theorem EC (hc:bp call) {ops:List Oper} {idi idj:Nat} {oi oj:Oper} {s si sij:St} {fi fj:Foot} (h1:cQ P G call ops idi oi s=some (si,fi)) (h2:cQ P G call ops idj oj si=some (sij,fj))
  (hap:j6 ops oi oj=true) (hcomp:fi.compat fj=true):∃sj,cQ P G call ops idj oj s=some (sj,fj)∧cQ P G call ops idi oi sj=some (sij,fi):=by
 obtain ⟨a1,a2,a3⟩:=EB hap
 obtain ⟨f,v,k1,n1,f1,f2,rfl⟩:=stepA_iff.1 h1
 obtain ⟨g,u,k2,n2,g1,g2,rfl⟩:=stepA_iff.1 h2
 simp only at g1 g2
 have g1':je P G call ops idj oj s.slots=some g:=by
  rw[←g1];exact xR fun t ht=>(xS (fun e=>a1 t e ht)).symm
 obtain ⟨k1',n1',e1,e2⟩:=Ey f2 g2 (xQ hc f1 f2) (xQ hc g1 g2) hcomp
 refine ⟨⟨bM s.n s.slots oj.dst u,k1',n1',s.n⟩,stepA_iff.2 ⟨g,u,k1',n1',g1',e1,rfl⟩,stepA_iff.2 ⟨f,v,k2,n2, ?_,e2, ?_⟩⟩
 ·rw[←f1];exact xR fun t ht=>xS (fun e=>a3 t e ht)
 ·simp only
  rw[EA a2]
end
end Go.Proofs.Abs
/- Regions that draw their order. -/
namespace Go.Proofs.Abs
open Go
section
variable {P:Program} {G:aF} {call:aI} {ops:Array Oper} {base:Nat}
def np (P:Program) (G:aF) (call:aI) (ops:Array Oper) (base:Nat) (F:Nat→Foot) (E:St):Nat→Array Bool→St→Prop
 |0,listed,s=>Region.ready .any ops listed=[]∧s=E
 |f+1,listed,s=>(Region.ready .any ops listed=[]→s=E)∧
  ∀i∈Region.ready .any ops listed,∃o s',ops[i]? =some o∧cQ P G call ops.toList (base+i) o s=some (s',F i)∧np P G call ops base F E f (listed.setIfInBounds i true) s'
theorem xT {w0:World} {I0:Nat→Prop} {α0:Nat→Option Nat} {H0:ab} {nx0:Nat} {D:List Deferred} {F:Nat→Foot} {E:St} {Q:Exit→Act→World→Prop} (hcall:bo P G call)
  (hq:∀a w,(∃L,RR G w0 I0 α0 H0 nx0 D base ops.size L E a w)→Q .normal a w):∀ (fuel:Nat) (listed:Array Bool) (s:St) (a:Act) (w:World),listed.size=ops.size→np P G call ops base F E fuel listed s→
   RR G w0 I0 α0 H0 nx0 D base ops.size (fun i=>listed.getD i true) s a w→wpAny P .any ops Q fuel listed a w
 |0,listed,s,a,w,_,h,hr=>⟨h.1,hq a w ⟨_,h.2▸hr⟩⟩
 | f+1,listed,s,a,w,hsz,h,hr=>⟨fun h0=>hq a w ⟨_,(h.1 h0)▸hr⟩,fun i hi=>by
   obtain ⟨o,s',ho,hst,hn⟩:=h.2 i hi
   have hlt:i<ops.size:=(Array.getElem?_eq_some_iff.1 ho).1
   have hun:=(mem_ready.1 hi).1
   refine xO hcall ho hlt hun hr hst fun a' w' hr'=>xT hcall hq f _ s' a' w' (by simp[hsz]) hn (hr'.mono fun j hj hjl=> ?_)
   simp only[Bool.or_eq_false_iff]
   by_cases e:j=i
   ·subst e
    rw[Array.getD_eq_getD_getElem?] at hjl
    simp[hsz,hlt] at hjl
   ·refine ⟨by simpa using e, ?_⟩
    rw[Array.getD_eq_getD_getElem?] at hjl⊢
    rwa [Array.getElem?_setIfInBounds_ne (Ne.symm e)] at hjl⟩
def pu (ops:Array Oper) (listed:Array Bool) (j:Nat):Prop:=∀o,ops[j]? =some o→∀e∈o.after,Region.binds .any e=true→listed.getD e.on false=true
def pv (ops:Array Oper) (listed:Array Bool):Prop:=∀j,listed.getD j false=true→pu ops listed j
theorem ED (hc:bp call) {F:Nat→Foot} {E:St} {i:Nat} {oi:Oper} (hi:ops[i]? =some oi):
    ∀ (fuel:Nat) (listed:Array Bool) (s si:St),listed.size=ops.size→pv ops listed→
      (∀j oj,ops[j]? =some oj→j≠i→listed.getD j true=false→(∀l:Array Bool,pv ops l→pu ops l j→l.getD i false=true)∨(j6 ops.toList oi oj=true∧(F i).compat (F j)=true))→
      i∈Region.ready .any ops listed→cQ P G call ops.toList (base+i) oi s=some (si,F i)→
      np P G call ops base F E fuel (listed.setIfInBounds i true) si→np P G call ops base F E (fuel+1) listed s:=by
  intro fuel
  induction fuel with
  | zero=>
    intro listed s si hsz hcl hfree hr hst H
    refine ⟨fun h=>(by rw[h] at hr;cases hr),fun j hj=> ?_⟩
    by_cases hji:j=i
    · subst hji;exact ⟨oi,si,hi,hst,H⟩
    · have:=ready_mono hj hji
      rw[H.1] at this
      cases this
  | succ fuel ih=>
    intro listed s si hsz hcl hfree hr hst H
    refine ⟨fun h=>(by rw[h] at hr;cases hr),fun j hj=> ?_⟩
    by_cases hji:j=i
    · subst hji;exact ⟨oi,si,hi,hst,H⟩
    · obtain ⟨oj,sij,hoj,hstj,Hij⟩:=H.2 j (ready_mono hj hji)
      obtain ⟨hjun,oj',hoj',hall⟩:=mem_ready.1 hj
      rw[hoj] at hoj';cases hoj'
      have hpj:pu ops listed j:=fun o ho e he hb=>by
        rw[hoj] at ho;cases ho
        exact hall e he hb
      have hil:listed.getD i true=false:=(mem_ready.1 hr).1
      have hlt:i<listed.size:=by rw[hsz];exact (Array.getElem?_eq_some_iff.1 hi).1
      have hif:listed.getD i false=false:=by
        rw[Array.getD_eq_getD_getElem?] at hil⊢
        simp[hlt] at hil⊢
        exact hil
      rcases hfree j oj hoj hji hjun with h1|⟨hap,hcomp⟩
      · rw[h1 listed hcl hpj] at hif;cases hif
      · obtain ⟨sj,e1,e2⟩:=EC hc hst hstj hap hcomp
        refine ⟨oj,sj,hoj,e1,ih (listed.setIfInBounds j true) sj sij (by simp[hsz]) ?_ ?_ (ready_mono hr (Ne.symm hji)) e2 ?_⟩
        · intro k hk o ho e he hb
          by_cases hkj:k=j
          · subst hkj
            have:=hpj o ho e he hb
            exact getD_set_of this
          · have hk':listed.getD k false=true:=by
              rw[Array.getD_eq_getD_getElem?] at hk⊢
              rwa [Array.getElem?_setIfInBounds_ne (Ne.symm hkj)] at hk
            exact getD_set_of (hcl k hk' o ho e he hb)
        · intro k ok hk hki hun
          refine hfree k ok hk hki ?_
          by_cases hkj:k=j
          · subst hkj;exact hjun
          · rw[Array.getD_eq_getD_getElem?] at hun⊢
            rwa [Array.getElem?_setIfInBounds_ne (Ne.symm hkj)] at hun
        · rw[Array.setIfInBounds_comm _ _ hji]
          exact Hij
 where
  getD_set_of {l:Array Bool} {k j:Nat} (h:l.getD k false=true):(l.setIfInBounds j true).getD k false=true:=by
    rw[Array.getD_eq_getD_getElem?] at h⊢
    by_cases e:k=j
    · subst e
      have hlt:k<l.size:=by
        rcases Nat.lt_or_ge k l.size with h'|h'
        · exact h'
        · rw[Array.getElem?_eq_none h'] at h;simp at h
      simp[hlt]
    · rw[Array.getElem?_setIfInBounds_ne (Ne.symm e)];exact h
end
end Go.Proofs.Abs
/- The order of the text serves every order. -/
namespace Go.Proofs.Abs
open Go
theorem xU (e:Edge):j4 e=Region.binds .any e:=by
 unfold j4 Region.binds
 cases e.ground<;>rfl
theorem xV {acc:List Nat} {i:Nat}:∀ (es:List Edge) (s:Nat),(es.foldl (fun s e=>if j4 e then s|||2^e.on|||(cg acc e.on).getD 0 else s) s).testBit i=true→
  s.testBit i=true∨∃e∈es,j4 e=true∧(e.on=i∨((cg acc e.on).getD 0).testBit i=true)
 |[],s,h=> .inl h
 | e ::es,s,h=>by
  simp only[List.foldl_cons] at h
  rcases xV es _ h with h1|⟨e',h1,h2,h3⟩
  ·by_cases hb:j4 e=true
   ·rw[if_pos hb] at h1
    simp only[Nat.testBit_or,Bool.or_eq_true] at h1
    rcases h1 with (h1|h1)|h1
    ·exact .inl h1
    ·rw[Nat.testBit_two_pow] at h1
     exact .inr ⟨e,by simp,hb,.inl (by simpa using h1)⟩
    ·exact .inr ⟨e,by simp,hb,.inr h1⟩
   ·rw[if_neg hb] at h1
    exact .inl h1
  ·exact .inr ⟨e',by simp[h1],h2,h3⟩
theorem xW:∀ (l:List Oper) (acc:List Nat),(∀j,j<acc.length→(dq l acc)[j]? =acc[j]?)∧
  ∀j o,l[j]? =some o→(dq l acc)[acc.length+j]? =some (m6 ((dq l acc).take (acc.length+j)) o.after.toList)
 |[],acc=>⟨fun j _=>rfl,fun j o h=>by simp at h⟩
 | x::t,acc=>by
  have ih:=xW t (acc++[m6 acc x.after.toList])
  simp only[dq]
  have hpre:(dq t (acc++[m6 acc x.after.toList])).take acc.length=acc:=by
   apply List.ext_getElem?
   intro j
   by_cases hj:j<acc.length
   ·rw[List.getElem?_take_of_lt hj,ih.1 j (by simp;omega),List.getElem?_append_left hj]
   ·rw[List.getElem?_eq_none (by simp;omega),List.getElem?_eq_none (by omega)]
  refine ⟨fun j hj=>by rw[ih.1 j (by simp;omega),List.getElem?_append_left hj],fun j o h=> ?_⟩
  cases j with
  |zero=>
   simp at h;subst h
   rw[Nat.add_zero,ih.1 acc.length (by simp),hpre]
   simp
  |succ j=>
   have:=ih.2 j o (by simpa using h)
   rw[show (acc++[m6 acc x.after.toList]).length+j=acc.length+(j+1) by simp;omega] at this
   exact this
theorem EE {ops:Array Oper} {l:Array Bool} (hcl:pv ops l) {i:Nat}:∀ (j:Nat),pu ops l j→(((dq ops.toList [])[j]?).getD 0).testBit i=true→l.getD i false=true:=by
  intro j
  induction j using Nat.strongRecOn with
  | _ j ih=>
    intro hp hb
    cases ho:ops[j]? with
    | none=>
      -- no such operation: no bits
      have:(dq ops.toList [])[j]? =none:=by
        rw[List.getElem?_eq_none]
        rw[befs_length]
        simpa using ho
      rw[this] at hb;simp at hb
    | some o=>
      have hs:=(xW ops.toList []).2 j o (by simpa using ho)
      simp only[List.length_nil,Nat.zero_add] at hs
      rw[hs] at hb
      simp only[Option.getD_some] at hb
      rcases xV _ _ hb with h|⟨e,he,hbe,h⟩
      · simp at h
      · have hl:=hp o ho e (by simpa using he) (by rw[←xU];exact hbe)
        rcases h with rfl|h
        · exact hl
        · rw[eA] at h
          by_cases hlt:e.on<j
          · rw[List.getElem?_take_of_lt hlt] at h
            exact ih e.on hlt (hcl e.on hl) h
          · rw[List.getElem?_eq_none (by simp;omega)] at h;simp at h
 where
  befs_length:∀ {l:List Oper} {acc:List Nat},(dq l acc).length=acc.length+l.length
    |[],acc=>by simp[dq]
    |x::t,acc=>by simp only[dq];rw[befs_length];simp;omega
def dj:List (Nat × Foot)→Nat→Foot
 |[],_=>⟨false,[],[]⟩
 |(i,f)::t,k=>if i=k then f else dj t k
theorem s8:∀ {a b:List (Nat × Foot)} {k:Nat},(∀p∈a,p.1≠k)→dj (a++b) k=dj b k
 |[],_,_,_=>rfl
 |(i,f)::t,b,k,h=>by
  simp only[List.cons_append,dj]
  rw[if_neg (h (i,f) (by simp)),s8 (fun p hp=>h p (by simp[hp]))]
theorem s9 {a:List (Nat × Foot)} {k:Nat} (h:∀p∈a,p.1≠k):dj a k=⟨false,[],[]⟩:=by
 have:=s8 (b:=[]) h
 simpa [dj] using this
theorem EF {f:Foot} (h:f.none=true):f=⟨false,[],[]⟩:=by
 obtain ⟨h1,h2,h3⟩:=s6 h
 cases f;simp_all
section
variable {P:Program} {G:aF} {call:aI} {ops:Array Oper} {base:Nat}
theorem ta:∀ {rest:List Oper} {k:Nat} {s E:St} {acc feet:List (Nat × Foot)},cH P G call ops.toList base rest k s acc=some (E,feet)→∃new,feet=new++acc∧(∀p∈new,k≤p.1)∧
  (List.Pairwise (fun p q:Nat × Foot=>q.1<p.1) new)
 |[],k,s,E,acc,feet,h=>by
  simp only[cH,Option.some.injEq,Prod.mk.injEq] at h
  exact ⟨[],h.2.symm,by simp,.nil⟩
 | o ::rest,k,s,E,acc,feet,h=>by
  simp only[cH] at h
  split at h
  ·rename_i s1 ft hst
   obtain ⟨new,h1,h2,h3⟩:=ta h
   split at h1
   ·exact ⟨new,h1,fun p hp=>by have:=h2 p hp;omega,h3⟩
   ·refine ⟨new++[(k,ft)],by rw[h1];simp,fun p hp=> ?_, ?_⟩
    ·rcases List.mem_append.1 hp with h|h
     ·have:=h2 p h;omega
     ·simp at h;subst h;exact Nat.le_refl _
    ·rw[List.pairwise_append]
     refine ⟨h3,by simp,fun p hp q hq=> ?_⟩
     simp at hq;subst hq
     have:=h2 p hp;simp;omega
  ·simp at h
theorem xX {bs:List Nat}:∀ {feet:List (Nat × Foot)},gK bs feet=true→List.Pairwise (fun p q:Nat × Foot=>q.1<p.1) feet→∀i j,i<j→
    ((bs[j]?).getD 0).testBit i=true∨(dj feet i).compat (dj feet j)=true
  |[],_,_,i,j,_=> .inr (by simp[dj,Foot.compat,Foot.none])
  | (k, fk)::t,h,hp,i,j,hij=>by
    simp only[gK,Bool.and_eq_true,List.all_eq_true] at h
    rw[List.pairwise_cons] at hp
    by_cases hj:k=j
    · subst hj
      have hi:k≠i:=by omega
      simp only[dj,if_true,if_neg hi]
      by_cases hm:∃p∈t,p.1=i
      · obtain ⟨p,hpt,hpi⟩:=hm
        have:=h.1 p hpt
        obtain ⟨pi,pf⟩:=p
        simp only at hpi;subst hpi
        have hl:dj t pi=pf:=look_of hp.2 hpt
        rw[hl]
        simp only[Bool.or_eq_true] at this
        rw[eA] at this
        exact this
      · have:dj t i=⟨false,[],[]⟩:=s9 fun p hp' e=>hm ⟨p,hp',e⟩
        rw[this]
        exact .inr (by simp[Foot.compat,Foot.none])
    · by_cases hi:k=i
      · subst hi
        have:dj t j=⟨false,[],[]⟩:=s9 fun p hp' e=>by
          have:=hp.1 p hp';simp at this;omega
        simp only[dj,if_true,if_neg hj,this]
        exact .inr (by simp[Foot.compat,Foot.none])
      · simp only[dj,if_neg hj,if_neg hi]
        exact xX h.2 hp.2 i j hij
 where
  look_of:∀ {t:List (Nat × Foot)} {i:Nat} {f:Foot},List.Pairwise (fun p q:Nat × Foot=>q.1<p.1) t→(i,f)∈t→dj t i=f
    |[],_,_,_,h=>by cases h
    | (k,g)::t,i,f,hp,h=>by
      rw[List.pairwise_cons] at hp
      rcases List.mem_cons.1 h with h|h
      · cases h;simp[dj]
      · have:=hp.1 _ h
        simp only at this
        simp only[dj,if_neg (show ¬k=i by omega)]
        exact look_of hp.2 h
theorem xY {bs:List Nat} {all:List Oper}:∀ {l:List Oper} {j:Nat},o5 all bs l j=true→(∀q,l[q]? =all[j+q]?)→∀ (q i:Nat) oi oj,l[q]? =some oj→all[i]? =some oi→i<j+q→
    ((bs[j+q]?).getD 0).testBit i=true∨j6 all oi oj=true
  |[],_,_,_,q,_,_,_,hq,_,_=>by simp at hq
  | o ::t,j,h,hl,q,i,oi,oj,hq,hi,hij=>by
    simp only[o5,Bool.and_eq_true] at h
    cases q with
    | zero=>
      simp at hq;subst hq
      have:=at_spec (all.take j) 0 h.1 i oi (by rw[List.getElem?_take_of_lt (by omega)];exact hi)
      rw[eA,Nat.zero_add] at this
      simpa using this
    | succ q=>
      have:=xY (l:=t) (j:=j+1) h.2 (fun q=>by have:=hl (q+1);simpa [Nat.add_assoc,Nat.add_comm 1 q] using this) q i oi oj (by simpa using hq) hi (by omega)
      rwa [show j+1+q=j+(q+1) by omega] at this
 where
  at_spec {bj:Nat} {oj:Oper}:∀ (l:List Oper) (k:Nat),o4 all bj oj l k=true→∀ (i:Nat) oi,l[i]? =some oi→bj.testBit (k+i)=true∨j6 all oi oj=true
    |[],_,_,_,_,h=>by simp at h
    | x ::t,k,hs,i,oi,h=>by
      simp only[o4,Bool.and_eq_true,Bool.or_eq_true] at hs
      cases i with
      |zero=>simp at h;subst h;exact hs.1
      | succ i=>
        have:=at_spec t (k+1) hs.2 i oi (by simpa using h)
        rwa [show k+1+i=k+(i+1) by omega] at this
theorem xZ:∀ {l:List Oper} {j:Nat},o6 l j=true→∀ (q:Nat) o,l[q]? =some o→∀e∈o.after,Region.binds .any e=true→e.on<j+q
 |[],_,_,_,_,h=>by simp at h
 | x::t,j,hs,q,o,h=>by
  simp only[o6,Bool.and_eq_true,List.all_eq_true] at hs
  intro e he hb
  cases q with
  |zero=>
   simp at h;subst h
   have:=hs.1 e (by simpa using he)
   rw[xU,hb] at this
   simpa using this
  |succ q=>
   have:=xZ hs.2 q o (by simpa using h) e he hb
   omega
theorem x8 (hc:bp call) (hreg:g9 ops.toList=true) {feet:List (Nat × Foot)} {E:St} (hfeet:gK (dq ops.toList []) feet=true) (hpw:List.Pairwise (fun p q:Nat × Foot=>q.1<p.1) feet):
  ∀ (rest:List Oper) (k:Nat) (s:St) (acc:List (Nat × Foot)) (listed:Array Bool),rest=ops.toList.drop k→k≤ops.size→cH P G call ops.toList base rest k s acc=some (E,feet)→(∀p∈acc,p.1<k)→
   listed.size=ops.size→(∀j b,j<ops.size→listed.getD j b=decide (j<k))→np P G call ops base (dj feet) E rest.length listed s
 | [],k,s,acc,listed,hd,hk,h,hacc,hsz,hl=>by
  simp only[cH,Option.some.injEq,Prod.mk.injEq] at h
  have hkn:ops.size≤k:=by
   have:=congrArg List.length hd
   simp at this;omega
  refine ⟨List.eq_nil_iff_forall_not_mem.2 fun j hj=> ?_,h.1⟩
  obtain ⟨h1,o,h2,_⟩:=mem_ready.1 hj
  have hj':j<ops.size:=(Array.getElem?_eq_some_iff.1 h2).1
  rw[hl j true hj'] at h1
  simp at h1;omega
 | o ::rest,k,s,acc,listed,hd,hk,h,hacc,hsz,hl=>by
  have ho:ops[k]? =some o:=by
   have:(ops.toList.drop k)[0]? =some o:=by rw[←hd];rfl
   rw[List.getElem?_drop] at this
   simpa using this
  have hkn:k<ops.size:=(Array.getElem?_eq_some_iff.1 ho).1
  have hd':rest=ops.toList.drop (k+1):=by
   have:(ops.toList.drop k).tail=rest:=by rw[←hd];rfl
   rw[←this,List.tail_drop]
  simp only[g9,Bool.and_eq_true] at hreg
  have hedge:∀ (q:Nat) o,ops[q]? =some o→∀e∈o.after,Region.binds .any e=true→e.on<q:=fun q o hq e he hb=>by
   have:=xZ hreg.1 q o (by simpa using hq) e he hb;omega
  simp only[cH] at h
  split at h
  ·rename_i s1 ft hst
   -- the foot of this operation
   obtain ⟨new,f1,f2,_⟩:=ta h
   have hft:dj feet k=ft:=by
    rw[f1,s8 (fun p hp=>by have:=f2 p hp;omega)]
    split
    ·rename_i hn
     rw[EF hn]
     exact s9 fun p hp=>by have:=hacc p hp;omega
    ·simp[dj]
   have hcl:pv ops listed:=fun j hj o' ho' e he hb=>by
    have hj':j<ops.size:=(Array.getElem?_eq_some_iff.1 ho').1
    rw[hl j false hj'] at hj
    have:=hedge j o' ho' e he hb
    simp at hj
    rw[hl e.on false (by omega)];simp;omega
   have hlk:∀j b,j<ops.size→(listed.setIfInBounds k true).getD j b=decide (j<k+1):=fun j b hj=>by
    rw[Array.getD_eq_getD_getElem?]
    by_cases e:j=k
    ·subst e;simp[hsz,hj]
    ·rw[Array.getElem?_setIfInBounds_ne (Ne.symm e),←Array.getD_eq_getD_getElem?,hl j b hj]
     rw[Bool.eq_iff_iff];simp;omega
   refine ED hc ho rest.length listed s s1 hsz hcl (fun j oj hoj hjk hun=> ?_) ?_ (by rw[hft];exact hst)
    (x8 hc (by simp only[g9,Bool.and_eq_true];exact hreg) hfeet hpw rest (k+1) s1 _ _ hd' hkn h (fun p hp=> ?_) (by simp[hsz]) hlk)
   ·have hj':j<ops.size:=(Array.getElem?_eq_some_iff.1 hoj).1
    rw[hl j true hj'] at hun
    have hlt:k<j:=by simp at hun;omega
    by_cases hbit:(((dq ops.toList [])[j]?).getD 0).testBit k=true
    ·exact .inl fun l hcl' hp=>EE hcl' j hp hbit
    ·have h1:=(xY (l:=ops.toList) (j:=0) hreg.2 (fun q=>by simp) j k o oj (by simpa using hoj) (by simpa using ho) (by omega))
     rw[Nat.zero_add] at h1
     have h2:=xX hfeet hpw k j hlt
     exact .inr ⟨h1.resolve_left hbit,h2.resolve_left hbit⟩
   ·refine mem_ready.2 ⟨by rw[hl k true hkn];simp,o,ho,fun e he hb=> ?_⟩
    have:=hedge k o ho e he hb
    rw[hl e.on false (by omega)];simpa using this
   ·split at hp
    ·have:=hacc p hp;omega
    ·rcases List.mem_cons.1 hp with rfl|hp
     ·exact Nat.lt_succ_self _
     ·have:=hacc p hp;omega
  ·simp at h
end
end Go.Proofs.Abs
/- Regions and code. -/
namespace Go.Proofs.Abs
open Go
abbrev CR (G:aF) (w0:World) (I0:Nat→Prop) (α0:Nat→Option Nat) (H0:ab) (nx0:Nat) (D:List Deferred) (s:St) (a:Act) (w:World):Prop:=
 RR G w0 I0 α0 H0 nx0 D s.nx 0 (fun _=>true) s a w
section
variable {P:Program} {G:aF} {call:aI} {w0:World} {I0:Nat→Prop} {α0:Nat→Option Nat} {H0:ab} {nx0:Nat} {D:List Deferred}
theorem RR.out {base n:Nat} {L:Nat→Bool} {s:St} {a:Act} {w:World} (h:RR G w0 I0 α0 H0 nx0 D base n L s a w):CR G w0 I0 α0 H0 nx0 D s a w:=by
 obtain ⟨⟨I,α,h1,h2,h3,_,h5,h6⟩,h7,h8,h9,h10,h11⟩:=h
 exact ⟨⟨I,α,h1,h2,h3,fun i hi=>absurd hi (Nat.not_lt_zero i),h5,h6⟩,Nat.le_refl _,by omega,h9,h10,h11⟩
theorem CR.enter {s:St} {a:Act} {w:World} (h:CR G w0 I0 α0 H0 nx0 D s a w) (n:Nat) (L:Nat→Bool):RR G w0 I0 α0 H0 nx0 D s.nx n L ⟨s.slots,s.heap,s.nx+n,s.n⟩ a w:=by
 obtain ⟨⟨I,α,h1,h2,h3,_,h5,h6⟩,h7,h8,h9,h10,h11⟩:=h
 refine ⟨⟨I,α,h1,h2,h3,fun i hi _=>h5 _ (by omega),fun id hid=>h5 id (by simp only at hid;omega),fun id hid=> ?_⟩,Nat.le_refl _,h8,h9,h10,h11⟩
 rcases h6 id hid with h|h
 ·exact .inl h
 ·exact .inr ⟨h.1,by simp only;omega⟩
theorem RR.heap {base n:Nat} {L:Nat→Bool} {s:St} {a:Act} {w w':World} (hw:w'.heap=w.heap) (h:RR G w0 I0 α0 H0 nx0 D base n L s a w) (hos:SameOs w w':=by first|assumption|exact ⟨rfl,rfl,rfl,Nat.le_refl _⟩|exact ⟨rfl,rfl,rfl,Nat.le_succ _⟩):RR G w0 I0 α0 H0 nx0 D base n L s a w':=by
 obtain ⟨⟨I,α,h1,h2,h3,h4,h5,h6⟩,h7,h8,h9,h10,h11⟩:=h
 refine ⟨⟨I,α,h1.trans (pd hw),Dp hw h2,fun t u hu=> ?_,h4,h5,h6⟩,h7,h8,h9,h10,h11⟩
 obtain ⟨y,e1,e2⟩:=h3 t u hu
 exact ⟨y,e1,e2.ev h2 (pd hw)⟩
theorem nq {id:Nat} {ops:Array Oper} {draw:Bool} {s s':St} {feet:List (Nat × Foot)} {a:Act} {w:World} {Q:Exit→Act→World→Prop} (hm:P.follows .mixedOrders=true)
  (hcall:bo P G call) (hloc:bp call) (hr:CR G w0 I0 α0 H0 nx0 D s a w)
  (h:cH P G call ops.toList s.nx ops.toList 0 ⟨s.slots,s.heap,s.nx+ac ops.toList,s.n⟩ []=some (s',feet))
  (hd:draw=true→g9 ops.toList=true∧gK (dq ops.toList []) feet=true)
  (hq:∀a' w',CR G w0 I0 α0 H0 nx0 D s' a' w'→Q .normal a' w'):(Code.region id ops draw).wp P Q a w:=by
 have hlen:ac ops.toList=ops.size:=by rw[aC];simp
 rw[hlen] at h
 cases draw with
 |false=>
  refine wp_region ?_
  have:=s5 (Q:=Q) hcall ops.toList 0 _ s' [] feet a w (by simp) h (hr.enter ops.size _) (fun a' w' h'=>hq a' w' h'.out)
  rw[List.range_eq_range']
  simpa using this
 | true=>
  obtain ⟨h1,h2⟩:=hd rfl
  refine wp_region_any hm ?_
  obtain ⟨new,e1,_,e3⟩:=ta h
  rw[List.append_nil] at e1
  subst e1
  have hA:=x8 hloc h1 h2 e3 ops.toList 0 _ [] (Array.replicate ops.size false) (by simp) (Nat.zero_le _) h (by simp) (by simp) (fun j b hj=>by
   rw[Array.getD_eq_getD_getElem?];simp[hj])
  rw[show ops.toList.length=ops.size by simp] at hA
  exact xT hcall (fun a w h'=>by obtain ⟨L,h'⟩:=h';exact hq a w h'.out) ops.size _ _ a _ (by simp) hA (RR.heap (w:=w) rfl (hr.enter ops.size _))
def co:AExit→Exit
 | .normal=> .normal
 | .exit id=> .exit id
 | .ret=> .ret
theorem tb {lf:Nat} (hm:P.follows .mixedOrders=true) (hcall:bo P G call) (hloc:bp call):∀ (c:Code) (s s':St) (e:AExit) (a:Act) (w:World) (Q:Exit→Act→World→Prop),
    bW P G call lf c s=some (e,s')→CR G w0 I0 α0 H0 nx0 D s a w→(∀a' w',CR G w0 I0 α0 H0 nx0 D s' a' w'→Q (co e) a' w')→c.wp P Q a w:=by
  intro c
  induction c with
  | skip=>
    intro s s' e a w Q h hr hq
    simp only[bW,Option.some.injEq,Prod.mk.injEq] at h
    obtain ⟨rfl,rfl⟩:=h
    exact wp_skip (hq _ _ hr)
  | label l=>
    intro s s' e a w Q h hr hq
    simp only[bW,Option.some.injEq,Prod.mk.injEq] at h
    obtain ⟨rfl,rfl⟩:=h
    exact wp_label (hq _ _ hr)
  | exit id=>
    intro s s' e a w Q h hr hq
    simp only[bW,Option.some.injEq,Prod.mk.injEq] at h
    obtain ⟨rfl,rfl⟩:=h
    exact wp_exit (hq _ _ hr)
  | ret=>
    intro s s' e a w Q h hr hq
    simp only[bW,Option.some.injEq,Prod.mk.injEq] at h
    obtain ⟨rfl,rfl⟩:=h
    exact wp_ret (hq _ _ hr)
  | region id ops draw=>
    intro s s' e a w Q h hr hq
    simp only[bW] at h
    split at h
    · rename_i s1 feet hro
      cases draw with
      | false=>
        simp only[Option.some.injEq,Prod.mk.injEq] at h
        obtain ⟨rfl,rfl⟩:=h
        exact nq hm hcall hloc hr hro (by simp) hq
      | true=>
        simp only at h
        split at h
        · rename_i hok
          simp only[Option.some.injEq,Prod.mk.injEq] at h
          obtain ⟨rfl,rfl⟩:=h
          rw[Bool.and_eq_true] at hok
          exact nq hm hcall hloc hr hro (fun _=>hok) hq
        · simp at h
    · simp at h
  | seq x y ihx ihy=>
    intro s s' e a w Q h hr hq
    simp only[bW] at h
    refine wp_seq ?_
    split at h
    · rename_i s1 h1
      exact ihx s s1 .normal a w _ h1 hr fun a' w' hr'=>ihy s1 s' e a' w' Q h hr' hq
    · rename_i hne
      cases e with
      |normal=>exact absurd h (hne s')
      |exit id=>exact ihx s s' _ a w _ h hr fun a' w' hr'=>hq a' w' hr'
      |ret=>exact ihx s s' _ a w _ h hr fun a' w' hr'=>hq a' w' hr'
  | cond c x y ihx ihy=>
    intro s s' e a w Q h hr hq
    simp only[bW] at h
    have hs:=hr.ex
    obtain ⟨I,α,_,_,hs,_⟩:=hs
    split at h
    · rename_i hc
      exact wp_cond_true (be hs hc).bool_val (ihx s s' e a w Q h hr hq)
    · rename_i hc
      exact wp_cond_false (be hs hc).bool_val (ihy s s' e a w Q h hr hq)
    · simp at h
  | block id body ih=>
    intro s s' e a w Q h hr hq
    simp only[bW] at h
    refine wp_block ?_
    split at h
    · rename_i i s1 h1
      refine ih s s1 (.exit i) a w _ h1 hr fun a' w' hr'=> ?_
      split at h
      · rename_i hi
        simp only[Option.some.injEq,Prod.mk.injEq] at h
        obtain ⟨rfl,rfl⟩:=h
        simp only[co,Exit.inBlock]
        rw[if_pos (beq_iff.1 hi)]
        exact hq a' w' hr'
      · rename_i hi
        simp only[Option.some.injEq,Prod.mk.injEq] at h
        obtain ⟨rfl,rfl⟩:=h
        simp only[co,Exit.inBlock]
        rw[if_neg (beq_false_iff.1 hi)]
        exact hq a' w' hr'
    · rename_i hne
      cases e with
      |normal=>exact ih s s' _ a w _ h hr fun a' w' hr'=>hq a' w' hr'
      |exit id=>exact absurd h (hne id s')
      |ret=>exact ih s s' _ a w _ h hr fun a' w' hr'=>hq a' w' hr'
  | loop body ih=>
    intro s s' e a w Q h hr hq
    simp only[bW] at h
    refine wp_loop_rounds lf ?_
    exact go ih lf s a w h hr hq
  |rangeFunc f p x y _ _=>intro s s' e a w Q h;simp[bW] at h
  |scope c _=>intro s s' e a w Q h;simp[bW] at h
  |goto l=>intro s s' e a w Q h;simp[bW] at h
  |refuse y=>intro s s' e a w Q h;simp[bW] at h
 where
  go {body:Code} {f:St→Option (AExit × St)} {s':St} {e:AExit} {Q:Exit→Act→World→Prop} (ih:∀ (s s':St) (e:AExit) (a:Act) (w:World) (Q:Exit→Act→World→Prop),f s=some (e,s')→CR G w0 I0 α0 H0 nx0 D s a w→
      (∀a' w',CR G w0 I0 α0 H0 nx0 D s' a' w'→Q (co e) a' w')→body.wp P Q a w):∀ (n:Nat) (s:St) (a:Act) (w:World),lm f n s=some (e,s')→CR G w0 I0 α0 H0 nx0 D s a w→
      (∀a' w',CR G w0 I0 α0 H0 nx0 D s' a' w'→Q (co e) a' w')→Code.rounds P body Q n a w
    |0,s,a,w,h,_,_=>by simp[lm] at h
    | n +1,s,a,w,h,hr,hq=>by
      simp only[lm] at h
      rw[rounds_succ]
      split at h
      · rename_i s1 h1
        exact ih s s1 .normal a w _ h1 hr fun a' w' hr'=>go ih n s1 a' w' h hr' hq
      · rename_i hne
        cases e with
        |normal=>exact absurd h (hne s')
        |exit id=>exact ih s s' _ a w _ h hr fun a' w' hr'=>hq a' w' hr'
        |ret=>exact ih s s' _ a w _ h hr fun a' w' hr'=>hq a' w' hr'
end
end Go.Proofs.Abs
/- Bodies of functions: arguments in, results out. -/
namespace Go.Proofs.Abs
open Go
theorem Tr.get_tip (j:Nat):Tr.tip.get j=none:=rfl
theorem x9:∀ (args:List AV) (k:Nat) (t:Tr) (j:Nat) (u:AV),k+args.length≤4095→(cX args k t).get j=some u→(∃i,j=k+i∧args[i]? =some u)∨t.get j=some u
 |[],_,_,_,_,_,h=> .inr h
 | v::vs,k,t,j,u,hl,h=>by
  simp only[List.length_cons] at hl
  rcases x9 vs (k+1) _ j u (by omega) h with ⟨i,h1,h2⟩|h1
  ·exact .inl ⟨i+1,by omega,by simpa using h2⟩
  ·by_cases e:j=k
   ·subst e
    have h2:(2:Nat)^12=4096:=by decide
    rw[Tr.get_set_lt 12 t v (by omega)] at h1
    exact .inl ⟨0,rfl,by simpa using h1⟩
   ·rw[Tr.get_set_ne 12 t v e] at h1
    exact .inr h1
section
variable {P:Program} {G:aF} {call:aI} {w:World} {I:Nat→Prop} {α:Nat→Option Nat} {H:ab}
theorem jf {args:List AV} {vs:Array Value} {n:Nat} (h:RepL w I α args vs.toList) (hl:args.length≤4095):
  ff w I α (cX args 0 .tip) (vs++Array.replicate n undef):=by
 intro t u hu
 rcases x9 args 0 .tip t u (by omega) hu with ⟨i,h1,h2⟩|h1
 ·obtain ⟨y,h3,h4⟩:=h.get h2
  rw[Nat.zero_add] at h1
  subst h1
  have hi:t<vs.size:=by
   have:=(List.getElem?_eq_some_iff.1 h3).1
   simpa using this
  refine ⟨y, ?_,h4⟩
  rw[Array.getElem?_append_left hi]
  simpa using h3
 ·rw[Tr.get_tip] at h1;cases h1
theorem EG {t:TypeId} {p v:AV} {p':Value} (r:Rel G w I α H) (hp:Rep w I α p p')
  (h : (match eh P t p G with
     |some (.val v)=>some v
     | some (.read id k)=>match hget H id with
      |some b=>match k b with
       |some (.val v)=>some v
       |_=>none
      |none=>none
     |_=>none)=some v):∃v',(do loadVar t (←asAddr p')).run P w= .ok v' w∧Rep w I α v v':=by
 cases p with
 | ptr id off=>
  simp only[eh] at h
  split at h
  ·rename_i b hb
   split at h
   ·rename_i u hu
    cases h
    split at hu
    ·simp only[Option.map_eq_some_iff] at hu
     obtain ⟨v1,hv,e⟩:=hu
     cases e
     obtain ⟨b',e1,_,e2⟩:=r.live id _ hb
     cases hp with
     |ptr _ _ b2 hb2=>
      rw[hb2] at e1;cases e1
      obtain ⟨v',h1,h2⟩:=e2.row.part (P:=P) hv
      rw[Nat.zero_add] at h1
      exact ⟨v',by simp[asAddr,h1],h2⟩
    ·simp at hu
   ·simp at h
  ·simp at h
 | fptr cs off=>
  simp only[eh] at h
  cases hv:ch P t cs off with
  |none=>simp[hv] at h
  |some u=>
   simp only[hv,Option.map_some,Option.some.injEq] at h
   subst h
   obtain ⟨b,base,rfl,hI,hr⟩:=hp.fptr_row
   obtain ⟨v',h1,h2⟩:=hr.part (P:=P) hv
   exact ⟨v',by simp[asAddr,h1],h2⟩
 | gptr g off=>
  simp only[eh] at h
  cases hl:G g with
  |none=>simp[hl] at h
  | some l=>
   simp only[hl] at h
   cases hv:ch P t l off with
   |none=>simp[hv] at h
   | some u=>
    simp only[hv,Option.map_some,Option.some.injEq] at h
    subst h
    cases hp
    have hr:Row w I α g 0 l:=fun j x hx=>by
     obtain ⟨y,h1,h2⟩:=(r.glob g l hl).2 j x hx
     exact ⟨y,by rw[Nat.zero_add];exact h1,h2⟩
    obtain ⟨v',h1,h2⟩:=hr.part (P:=P) hv
    rw[Nat.zero_add] at h1
    exact ⟨v',by simp[asAddr,h1],h2⟩
 |_=>simp[eh] at h
theorem ya {s:St} {tmps:Array Value} (r:Rel G w I α s.heap) (hs:ff w I α s.slots tmps):∀ {l:List ResultVar} {vs:List AV},db P G s l=some vs→
  ∃us,(l.mapM (m:=Sem) fun
   | .tmp t=>pure (tmps.getD t undef)
   | .cell a t=>do loadVar t (←asAddr (tmps.getD a undef))).run P w= .ok us w∧RepL w I α vs us
 |[],vs,h=>by
  simp only[db,Option.some.injEq] at h;subst h
  exact ⟨[],by simp,.nil⟩
 | x ::t,vs,h=>by
  simp only[db] at h
  split at h
  ·rename_i v hv
   split at h
   ·rename_i l hl
    simp only[Option.some.injEq] at h;subst h
    obtain ⟨us,h1,h2⟩:=ya r hs hl
    cases x with
    |tmp j=>
     obtain ⟨y,e1,e2⟩:=hs j v hv
     refine ⟨y::us, ?_,.cons e2 h2⟩
     have hy:tmps.getD j undef=y:=by rw[Array.getD_eq_getD_getElem?,e1];rfl
     rw[List.mapM_cons]
     simp only[Sem.run_bind,Sem.run_pure,Result.andThen_ok,h1,hy]
    | cell a ty=>
     simp only at hv
     cases hp:s.slots.get a with
     |none=>simp[hp] at hv
     |some p=>
      simp only[hp] at hv
      obtain ⟨y,e1,e2⟩:=hs a p hp
      obtain ⟨v',e3,e4⟩:=EG r e2 hv
      refine ⟨v'::us, ?_,.cons e4 h2⟩
      have hy:tmps.getD a undef=y:=by rw[Array.getD_eq_getD_getElem?,e1];rfl
      rw[List.mapM_cons]
      simp only[hy]
      rw[Sem.run_bind,e3,Result.andThen_ok,Sem.run_bind,h1,Result.andThen_ok,Sem.run_pure]
   ·simp at h
  ·simp at h
theorem jg {fn:Func} {s:St} {tmps:Array Value} {vs:List AV} (r:Rel G w I α s.heap) (hs:ff w I α s.slots tmps) (h:db P G s fn.results.toList=some vs):
  ∃u,(results fn tmps).run P w= .ok u w∧Rep w I α (cW vs) u:=by
 obtain ⟨us,h1,h2⟩:=ya (P:=P) r hs h
 unfold results
 rw[Array.mapM_eq_mapM_toList]
 refine ⟨if h:us.toArray.size=1 then us.toArray[0] else .tuple us.toArray, ?_, ?_⟩
 ·simp only[←bind_pure_comp,Sem.run_bind,Sem.run_pure]
  exact congrArg (fun r:Result (List Value)=>(r.andThen fun a w'=> .ok a.toArray w').andThen fun a w'=> .ok (if h:a.size=1 then a[0] else .tuple a) w') h1
 ·unfold cW
  split
  ·rename_i v
   obtain ⟨y,us',rfl,e1,e2⟩:=h2.cons_inv
   cases e2.nil_inv
   simpa using e1
  ·rename_i hne
   rw[dif_neg]
   ·exact Rep.tuple_iff.2 ⟨_,rfl,by simpa using h2⟩
   ·intro h3
    have h3:vs.length=1:=by rw[h2.1];simpa using h3
    match vs,h3 with
    |[v],_=>exact hne v rfl
structure dX (G:aF) (w:World) (I:Nat→Prop) (α:Nat→Option Nat) (H:ab) (nx:Nat) (av:AV) (H':ab) (nx':Nat) (v:Value) (w':World):Prop where
 ex:∃I' α',Ev w I α H w' I' α' H'∧Rel G w' I' α' H'∧Rep w' I' α' av v∧(∀id,α' id≠none→α id≠none∨(nx≤id∧id<nx'))
 le:nx≤nx'
theorem ki {O:aT} {f:FuncId} {args:List AV} {vs:Array Value} {nx nx':Nat} {v:AV} {H':ab} (hm:P.follows .mixedOrders=true) (hcall:bo P O.glob call) (hloc:bp call)
  (h:ep P O call f args H nx=some (v,H',nx')) (r:Rel O.glob w I α H) (ha:RepL w I α args vs.toList) (hf:∀id,nx≤id→α id=none):
  (callFunc f vs).run P w= .ok (.enter f vs) w∧Calls P f vs w fun e w'=>∃u,e= .returned u∧dX O.glob w I α H nx v H' nx' u w':=by
 unfold ep at h
 split at h
 ·rename_i fn hfn
  split at h
  ·rename_i c hc
   split at h
   ·simp at h
   ·rename_i hname
    split at h
    ·simp at h
    ·rename_i hsz
     rw[Bool.and_eq_true,Nat.ble_eq,Nat.ble_eq,aC] at hsz
     refine ⟨?_, ?_⟩
     ·unfold callFunc
      simp only[Sem.run_bind,run_program,Result.andThen_ok,hfn,hname,hc,Bool.false_eq_true,if_false,Option.isNone_some,Sem.run_pure]
     ·refine calls_of_wp hfn hc ?_
      have hvs:args.length=vs.size:=by rw[ha.1];simp
      have hr0:CR O.glob w I α H nx [] ⟨cX args 0 .tip,H,nx,fn.ntmps⟩ {tmps:=vs++Array.replicate (fn.ntmps-vs.size) undef,defers:=[]} w:=
       ⟨⟨I,α,.refl,r,jf ha (by omega),fun i hi=>absurd hi (Nat.not_lt_zero i),hf,fun id h=> .inl h⟩,Nat.le_refl _,Nat.le_refl _,rfl,by simp;omega,hsz.2⟩
      have fin:∀ (s:St) (a:Act) (w':World) (l:List AV),db P O.glob s fn.results.toList=some l→CR O.glob w I α H nx [] s a w'→
        a.defers=[]∧∃u,(results fn a.tmps).run P w'= .ok u w'∧∃u',Ending.returned u= .returned u'∧dX O.glob w I α H nx (cW l) s.heap s.nx u' w':=fun s a w' l hl hr=>by
       obtain ⟨⟨I',α',h1,h2,h3,_,_,h6⟩,_,h8,h9,_,_⟩:=hr
       obtain ⟨u,e1,e2⟩:=jg (P:=P) (fn:=fn) h2 h3 hl
       exact ⟨h9,u,e1,u,rfl,⟨I',α',h1,h2,e2,h6⟩,h8⟩
      split at h
      ·rename_i s hex
       split at h
       ·rename_i l hl
        simp only[Option.some.injEq,Prod.mk.injEq] at h
        obtain ⟨rfl,rfl,rfl⟩:=h
        exact tb hm hcall hloc c _ s .normal _ w _ hex hr0 fun a' w' hr=>fin s a' w' l hl hr
       ·simp at h
      ·rename_i s hex
       split at h
       ·rename_i l hl
        simp only[Option.some.injEq,Prod.mk.injEq] at h
        obtain ⟨rfl,rfl,rfl⟩:=h
        exact tb hm hcall hloc c _ s .ret _ w _ hex hr0 fun a' w' hr=>fin s a' w' l hl hr
       ·simp at h
      ·simp at h
  ·simp at h
 ·simp at h
end
end Go.Proofs.Abs
/- What a call made becomes part of its answer. -/
namespace Go.Proofs.Abs
open Go
theorem nr (c:List AV):(g6 c).cells=c:=by
 unfold g6
 split
 ·rfl
 ·rename_i v hv
  cases v<;>first|rfl|exact absurd rfl (hv _)
 ·rfl
theorem yb {sz:Nat}:∀ {n:Nat} {l es:List AV},i3 sz n l=some es→(∀e∈es,e.cells.length=sz)∧es.length=n∧∃r,l=flat es++r
 |0,l,es,h=>by
  simp only[i3,Option.some.injEq] at h;subst h
  exact ⟨by simp,rfl,l,rfl⟩
 | n+1,l,es,h=>by
  simp only[i3] at h
  split at h
  ·rename_i c hc
   simp only[Option.map_eq_some_iff] at h
   obtain ⟨es',h1,rfl⟩:=h
   obtain ⟨e1,e2,r,e3⟩:=yb h1
   obtain ⟨f1,f2,f3⟩:=jc _ _ _ _ hc
   rw[List.drop_zero] at f1
   refine ⟨fun e he=> ?_,by simp[e2],r, ?_⟩
   ·rcases List.mem_cons.1 he with rfl|he
    ·rw[nr];exact f2
    ·exact e1 e he
   ·simp only[flat,nr]
    rw[List.append_assoc,←e3,f1,List.take_append_drop]
  ·simp at h
theorem jh {f:AV→Option AV}:∀ {l l':List AV},bJ f l=some l'→l'.length=l.length∧∀ (i:Nat) x',l'[i]? =some x'→∃x,l[i]? =some x∧f x=some x'
 |[],l',h=>by
  simp only[bJ,Option.some.injEq] at h;subst h
  exact ⟨rfl,by simp⟩
 | a::t,l',h=>by
  simp only[bJ] at h
  split at h
  ·rename_i b hb
   split at h
   ·rename_i u hu
    simp only[Option.some.injEq] at h;subst h
    obtain ⟨h1,h2⟩:=jh hu
    refine ⟨by simp[h1],fun i x' hx=> ?_⟩
    cases i with
    |zero=>simp at hx;subst hx;exact ⟨a,rfl,hb⟩
    |succ i=>simpa using h2 i x' (by simpa using hx)
   ·simp at h
  ·simp at h
theorem EH {f:AV→Option AV} {a:AV} {t l':List AV} (h:bJ f (a::t)=some l'):∃b u,f a=some b∧bJ f t=some u∧l'=b::u:=by
 simp only[bJ] at h
 split at h
 ·rename_i b hb
  split at h
  ·rename_i u hu
   simp only[Option.some.injEq] at h
   exact ⟨b,u,hb,hu,h.symm⟩
  ·simp at h
 ·simp at h
section
variable {G:aF} {w:World} {I I2:Nat→Prop} {α:Nat→Option Nat} {H:ab}
theorem EI {e:AV} {vs:List Value} (h:RepL w I α e.cells vs):∃val,Rep w I α e val∧val.cells.toList=vs:=by
 cases e with
 |agg cs=>exact ⟨.agg vs.toArray,Rep.agg_iff.2 ⟨_,rfl,by simpa [AV.cells] using h⟩,by simp[Value.cells]⟩
 |_=>
  obtain ⟨y,vs',rfl,h1,h2⟩:=RepL.cons_inv h
  cases h2.nil_inv
  exact ⟨y,h1,by cases h1<;>rfl⟩
theorem RepL.split {a c:List AV} {us:List Value} (h:RepL w I α (a++c) us):RepL w I α a (us.take a.length)∧RepL w I α c (us.drop a.length):=by
 have hl:=h.1
 simp only[List.length_append] at hl
 refine ⟨⟨by simp;omega,fun i x y h1 h2=> ?_⟩,⟨by simp;omega,fun i x y h1 h2=> ?_⟩⟩
 ·have hi:i<a.length:=(List.getElem?_eq_some_iff.1 h1).1
  rw[List.getElem?_take_of_lt hi] at h2
  exact h.2 i x y (by rw[List.getElem?_append_left hi];exact h1) h2
 ·rw[List.getElem?_drop] at h2
  exact h.2 _ x y (by rw[List.getElem?_append_right (by omega),Nat.add_sub_cancel_left];exact h1) h2
theorem yc {cs:List AV} {b base off:Nat} (hI:I b) (hr:Row w I α b base cs):Rep w I α (.fptr cs off) (.pointer (some ⟨b,base+off,none⟩)):=by
 refine .fptr cs off b base (fun j=>(w.cell? ⟨b,base+j,none⟩).getD undef) hI (fun j c h=> ?_) (fun j c h=> ?_)
 ·obtain ⟨y,h1,_⟩:=hr j c h
  rw[h1];rfl
 ·obtain ⟨y,h1,h2⟩:=hr j c h
  rw[h1];exact h2
def FrOk (w:World) (I I2:Nat→Prop) (α:Nat→Option Nat) (f:AV→Option AV):Prop:=∀v v' val,f v=some v'→Rep w I α v val→Rep w I2 α v' val
theorem FrOk.list {f:AV→Option AV} (ih:FrOk w I I2 α f) {l l':List AV} {vs:List Value} (h:bJ f l=some l') (hr:RepL w I α l vs):RepL w I2 α l' vs:=by
 obtain ⟨h1,h2⟩:=jh h
 refine ⟨by rw[h1,hr.1],fun i x' y hx hy=> ?_⟩
 obtain ⟨x,e1,e2⟩:=h2 i x' hx
 exact ih x x' y e2 (hr.2 i x y e1 hy)
theorem FrOk.row {f:AV→Option AV} (ih:FrOk w I I2 α f) {l l':List AV} {b base:Nat} (h:bJ f l=some l') (hr:Row w I α b base l):Row w I2 α b base l':=by
 obtain ⟨h1,h2⟩:=jh h
 intro j x' hx
 obtain ⟨x,e1,e2⟩:=h2 j x' hx
 obtain ⟨y,e3,e4⟩:=hr j x e1
 exact ⟨y,e3,ih x x' y e2 e4⟩
theorem FrOk.flat {f:AV→Option AV} (ih:FrOk w I I2 α f) {sz:Nat}:∀ {es es':List AV} {us:List Value},bJ f es=some es'→(∀e∈es,e.cells.length=sz)→RepL w I α (flat es) us→
  RepL w I2 α (Abs.flat es') us∧∀e∈es',e.cells.length=sz
 |[],es',us,h,_,hr=>by
  simp only[bJ,Option.some.injEq] at h;subst h
  have:=hr.nil_inv;subst this
  exact ⟨.nil,by simp⟩
 | e::t,es',us,h,hs,hr=>by
  obtain ⟨b,u,h1,h2,rfl⟩:=EH h
  obtain ⟨r1,r2⟩:=RepL.split (a:=e.cells) (c:=Abs.flat t) hr
  obtain ⟨val,v1,v2⟩:=EI r1
  have hb:=(ih e b val h1 v1).cells
  rw[v2] at hb
  obtain ⟨k1,k2⟩:=FrOk.flat ih h2 (fun x hx=>hs x (by simp[hx])) r2
  refine ⟨?_,fun x hx=> ?_⟩
  ·have:=hb.append k1
   rwa [List.take_append_drop] at this
  ·rcases List.mem_cons.1 hx with rfl|hx
   ·rw[hb.1,←r1.1];exact hs e (by simp)
   ·exact k2 x hx
theorem tc {sz:Nat}:∀ {es:List AV},(∀e∈es,e.cells.length=sz)→(flat es).length=es.length*sz
 |[],_=>by simp[flat]
 |e::t,h=>by
  simp only[flat,List.length_append,List.length_cons]
  rw[h e (by simp),tc (fun x hx=>h x (by simp[hx])),Nat.succ_mul,Nat.add_comm]
theorem Rep.fsl_flat {full:Bool} {es:List AV} {v:Value} (h:Rep w I α (.fsl full es) v) (hne:es≠[]):∃b base sz cap,v= .slice (some ⟨b,base,none⟩) es.length cap∧es.length≤cap∧(full=true→cap=es.length)∧I b∧
    (∀e∈es,e.cells.length=sz)∧∃us:List Value,RepL w I α (flat es) us∧∀ (i:Nat) y,us[i]? =some y→w.cell? ⟨b,base+i,none⟩=some y:=by
  cases h with
  | fsl _ _ a len cap sz b base g hl hc hf ha hI hs hg hr=>
    refine ⟨b,base,sz,cap,by rw[nb hl hc ha hne,hl],by omega,fun hh=>by rw[hf hh,hl],hI hne,hs,(List.range (es.length*sz)).map fun i=>(w.cell? ⟨b,base+i,none⟩).getD undef,⟨by rw[tc hs];simp,fun i x y h1 h2=> ?_⟩,fun i y h1=> ?_⟩
    · obtain ⟨q,e,j,e1,e2,e3⟩:=at_flat hs h1
      rw[List.getElem?_map] at h2
      simp only[Option.map_eq_some_iff] at h2
      obtain ⟨i',h3,h4⟩:=h2
      obtain ⟨h5,h6⟩:=List.getElem?_eq_some_iff.1 h3
      simp at h6;subst h6
      have:=hg q e j x e1 e2
      rw[e3] at h4
      rw[Nat.add_assoc] at this
      rw[this] at h4
      simp only[Option.getD_some] at h4
      rw[←h4]
      exact hr q e j x e1 e2
    · rw[List.getElem?_map] at h1
      simp only[Option.map_eq_some_iff] at h1
      obtain ⟨i',h3,h4⟩:=h1
      obtain ⟨h5,h6⟩:=List.getElem?_eq_some_iff.1 h3
      simp at h6 h5;subst h6
      obtain ⟨x,hx⟩:∃x,(flat es)[i]? =some x:=by
        have:i<(flat es).length:=by rw[tc hs];exact h5
        exact ⟨_,List.getElem?_eq_getElem this⟩
      obtain ⟨q,e,j,e1,e2,e3⟩:=at_flat hs hx
      have:=hg q e j x e1 e2
      rw[Nat.add_assoc,←e3] at this
      rw[this] at h4⊢
      simpa using h4
 where
  at_flat {sz:Nat}:∀ {es:List AV} {i:Nat} {x:AV},(∀e∈es,e.cells.length=sz)→(flat es)[i]? =some x→∃q e j,es[q]? =some e∧e.cells[j]? =some x∧i=q*sz+j
    |[],i,x,_,h=>by simp[flat] at h
    | e ::t,i,x,hs,h=>by
      simp only[flat] at h
      by_cases hi:i<e.cells.length
      · rw[List.getElem?_append_left hi] at h
        exact ⟨0,e,i,rfl,h,by simp⟩
      · rw[List.getElem?_append_right (by omega)] at h
        obtain ⟨q,e',j,h1,h2,h3⟩:=at_flat (fun y hy=>hs y (by simp[hy])) h
        rw[hs e (by simp)] at h3 hi
        exact ⟨q+1,e',j,by simpa using h1,h2,by rw[Nat.succ_mul];omega⟩
def cT (I:Nat→Prop) (α:Nat→Option Nat) (H:ab) (n:Nat) (b:Nat):Prop:=I b∨∃id,n≤id∧hget H id≠none∧α id=some b
theorem yd {b base:Nat} {cs:List AV} {us:List Value} (h:RepL w I α cs us) (hc:∀ (i:Nat) y,us[i]? =some y→w.cell? ⟨b,base+i,none⟩=some y):Row w I α b base cs:=fun j x hx=>by
 obtain ⟨y,h1,h2⟩:=h.get hx
 exact ⟨y,hc j y h1,h2⟩
theorem gi (r:Rel G w I α H) (n:Nat):∀d,FrOk w I (cT I α H n) α (aH n H d)
 |0,v,v',val,h,_=>by simp[aH] at h
 | d + 1,v,v',val,h,hv=>by
  have ih:=gi r n d
  have up:∀ {v:AV} {val:Value},Rep w I α v val→Rep w (cT I α H n) α v val:=fun hv=>hv.mono (fun _ h=> .inl h) (fun _ _ h=>h) (fun _ _ _=>rfl) (fun _ _ _=>rfl)
  cases v with
  | ptr id off=>
   simp only[aH] at h
   split at h
   ·cases h;exact up hv
   ·rename_i hid
    have hid:=nc hid
    split at h
    ·rename_i l hg
     split at h
     ·rename_i l' hl
      cases h
      obtain ⟨b,e1,e2,e3⟩:=r.live id _ hg
      cases hv with
      |ptr _ _ b' hb=>
       rw[hb] at e1;cases e1
       have:=yc (off:=off) (I:=cT I α H n) (.inr ⟨id,by omega,by rw[hg];simp,hb⟩) (ih.row hl e3.row)
       rwa [Nat.zero_add] at this
     ·simp at h
    ·simp at h
  | rsl own id off len sz=>
   simp only[aH] at h
   split at h
   ·cases h;exact up hv
   ·rename_i hid
    have hid:=nc hid
    split at h
    ·rename_i l hg
     split at h
     ·rename_i es hes
      split at h
      ·rename_i es' hl
       cases h
       obtain ⟨b,e1,e2,e3⟩:=r.live id _ hg
       cases hv with
       | rsl _ _ _ _ _ cap b' hb hcap ho=>
        rw[hb] at e1;cases e1
        obtain ⟨c,ty,f1,f2,f3⟩:=e3
        obtain ⟨g1,g2,rr,g3⟩:=yb hes
        have hlen:es'.length=len:=by rw[(jh hl).1,g2]
        have hdrop:RepL w I α (l.drop off) ((c.toList.take l.length).drop off):=⟨by simp only[List.length_drop,←f3.1],fun i x y h1 h2=>by
         rw[List.getElem?_drop] at h1 h2
         exact f3.2 _ x y h1 h2⟩
        rw[g3] at hdrop
        obtain ⟨k1,_⟩:=hdrop.split
        obtain ⟨m1,m2⟩:=ih.flat hl g1 k1
        have hrow:Row w (cT I α H n) α b off (flat es'):=yd m1 fun i y hy=>by
         have hi:=(List.getElem?_eq_some_iff.1 hy).1
         simp only[List.length_take] at hi
         rw[List.getElem?_take_of_lt (by omega),List.getElem?_drop] at hy
         have hj:=(List.getElem?_eq_some_iff.1 hy).1
         simp only[List.length_take] at hj
         rw[List.getElem?_take_of_lt (by omega)] at hy
         simp only[World.cell?,f1]
         simpa using hy
        have:=lz (full:=false) (es:=es') (b:=b) (base:=off) (cap:=cap) (sz:=sz) (I:=cT I α H n) (.inr ⟨id,by omega,by rw[hg];simp,hb⟩) m2 (by omega) (by simp) hrow
        rwa [hlen] at this
      ·simp at h
     ·simp at h
    ·simp at h
  | fptr cs off=>
   simp only[aH] at h
   split at h
   ·rename_i cs' hl
    cases h
    obtain ⟨b,base,rfl,hI,hr⟩:=hv.fptr_row
    exact yc (.inl hI) (ih.row hl hr)
   ·simp at h
  | fsl full es=>
   simp only[aH] at h
   split at h
   ·rename_i es' hl
    cases h
    by_cases hne:es=[]
    ·subst hne
     simp only[bJ,Option.some.injEq] at hl
     subst hl
     exact up hv
    ·obtain ⟨b,base,sz,cap,rfl,h1,h2,h3,h4,us,h5,h6⟩:=hv.fsl_flat hne
     obtain ⟨m1,m2⟩:=ih.flat hl h4 h5
     have hlen:=(jh hl).1
     rw[←hlen] at h1 h2⊢
     exact lz (I:=cT I α H n) (.inl h3) m2 h1 h2 (yd m1 h6)
   ·simp at h
  | agg cs=>
   simp only[aH] at h
   split at h
   ·rename_i cs' hl
    cases h
    obtain ⟨a',rfl,hr⟩:=Rep.agg_iff.1 hv
    exact Rep.agg_iff.2 ⟨a',rfl,ih.list hl hr⟩
   ·simp at h
  | tuple cs=>
   simp only[aH] at h
   split at h
   ·rename_i cs' hl
    cases h
    obtain ⟨a',rfl,hr⟩:=Rep.tuple_iff.1 hv
    exact Rep.tuple_iff.2 ⟨a',rfl,ih.list hl hr⟩
   ·simp at h
  | func fn a b=>
   simp only[aH] at h
   split at h
   ·rename_i a1 b1 ha hb
    cases h
    obtain ⟨a',c',rfl,h1,h2⟩:=Rep.func_iff.1 hv
    exact Rep.func_iff.2 ⟨a',c',rfl,ih.list ha h1,ih.list hb h2⟩
   ·simp at h
  | iface t v=>
   simp only[aH] at h
   split at h
   ·rename_i v1 h1
    cases h
    cases hv with
    |iface _ _ v2 hv2=>exact .iface t v1 v2 (ih v v1 v2 h1 hv2)
   ·simp at h
  |map id=>
   simp only[aH] at h
   split at h
   ·cases h;exact up hv
   ·simp at h
  |_=>simp only[aH,Option.some.injEq] at h;subst h;exact up hv
theorem rep_closed {α':Nat→Option Nat} {v:AV} {val:Value} (h:Rep w I α v val) (hc:ad v=true):Rep w I α' v val:=by
  induction h with
  |bool b=>exact .bool b
  |int k n=>exact .int k n
  |str s b h=>exact .str s b h
  |ptr id off b h=>simp[ad] at hc
  |nilp=>exact .nilp
  | fptr cs off b base g hIb hg hr ih=>
    simp only[ad] at hc
    exact .fptr cs off b base g hIb hg fun j c e=>ih j c e (all_get hc e)
  |gptr g off=>exact .gptr g off
  | fsl full es a len cap sz b base g hl hcap hf ha hIb hsz hg hr ih=>
    simp only[ad] at hc
    refine .fsl full es a len cap sz b base g hl hcap hf ha hIb hsz hg fun i e j c h1 h2=>ih i e j c h1 h2 ?_
    exact cells_closed (all_get hc h1) h2
  |rsl own id off len sz cap b h hcap ho=>simp[ad] at hc
  |nilsl=>exact .nilsl
  |nesl a cap=>exact .nesl a cap
  |map id b h=>simp[ad] at hc
  |nilmap=>exact .nilmap
  | func fn a c a' c' h1 h2 _ _ ih1 ih2=>
    simp only[ad,Bool.and_eq_true] at hc
    exact .func fn a c a' c' h1 h2 (fun i x y e1 e2=>ih1 i x y e1 e2 (all_get hc.1 e1)) (fun i x y e1 e2=>ih2 i x y e1 e2 (all_get hc.2 e1))
  |nilFunc=>exact .nilFunc
  |iface t v v' _ ih=>exact .iface t v v' (ih (by simpa [ad] using hc))
  |nilIface=>exact .nilIface
  |agg a a' h1 _ ih=>exact .agg a a' h1 fun i x y e1 e2=>ih i x y e1 e2 (all_get (by simpa [ad] using hc) e1)
  |tuple a a' h1 _ ih=>exact .tuple a a' h1 fun i x y e1 e2=>ih i x y e1 e2 (all_get (by simpa [ad] using hc) e1)
 where
  all_get:∀ {l:List AV} {i:Nat} {x:AV},ae l=true→l[i]? =some x→ad x=true
    |[],_,_,_,h=>by simp at h
    | a::t,0,x,hc,h=>by
      simp only[ae,Bool.and_eq_true] at hc
      simp at h;subst h;exact hc.1
    | a::t,i+1,x,hc,h=>by
      simp only[ae,Bool.and_eq_true] at hc
      exact all_get hc.2 (by simpa using h)
  cells_closed {e:AV} {j:Nat} {c:AV} (hc:ad e=true) (h:e.cells[j]? =some c):ad c=true:=by
    cases e with
    |agg cs=>exact all_get (l:=cs) (by simpa [ad] using hc) (by simpa [AV.cells] using h)
    | _=>(cases j with
      |zero=>simp[AV.cells] at h;subst h;exact hc
      |succ j=>simp[AV.cells] at h)
theorem gP {α':Nat→Option Nat} {l:List AV} {vs:List Value} (h:RepL w I α l vs) (hc:ae l=true):RepL w I α' l vs:=
 ⟨h.1,fun i x y h1 h2=>rep_closed (h.2 i x y h1 h2) (rep_closed.all_get hc h1)⟩
end
theorem rep_low {w:World} {I:Nat→Prop} {α α2:Nat→Option Nat} {n:Nat} (hα:∀id b,id<n→α id=some b→α2 id=some b) {v:AV} {val:Value} (h:Rep w I α v val) (hc:di n v=true):Rep w I α2 v val:=by
  induction h with
  |bool b=>exact .bool b
  |int k n=>exact .int k n
  |str s b h=>exact .str s b h
  |ptr id off b h=>exact .ptr id off b (hα _ _ (blt_iff.1 (by simpa only[di] using hc)) h)
  |nilp=>exact .nilp
  | fptr cs off b base g hIb hg hr ih=>
    simp only[di] at hc
    exact .fptr cs off b base g hIb hg fun j c e=>ih j c e (all_get hc e)
  |gptr g off=>exact .gptr g off
  | fsl full es a len cap sz b base g hl hcap hf ha hIb hsz hg hr ih=>
    simp only[di] at hc
    refine .fsl full es a len cap sz b base g hl hcap hf ha hIb hsz hg fun i e j c h1 h2=>ih i e j c h1 h2 ?_
    exact cells_low (all_get hc h1) h2
  |rsl own id off len sz cap b h hcap ho=>exact .rsl own id off len sz cap b (hα _ _ (blt_iff.1 (by simpa only[di] using hc)) h) hcap ho
  |nilsl=>exact .nilsl
  |nesl a cap=>exact .nesl a cap
  |map id b h=>exact .map id b (hα _ _ (blt_iff.1 (by simpa only[di] using hc)) h)
  |nilmap=>exact .nilmap
  | func fn a c a' c' h1 h2 _ _ ih1 ih2=>
    simp only[di,Bool.and_eq_true] at hc
    exact .func fn a c a' c' h1 h2 (fun i x y e1 e2=>ih1 i x y e1 e2 (all_get hc.1 e1)) (fun i x y e1 e2=>ih2 i x y e1 e2 (all_get hc.2 e1))
  |nilFunc=>exact .nilFunc
  |iface t v v' _ ih=>exact .iface t v v' (ih (by simpa only[di] using hc))
  |nilIface=>exact .nilIface
  |agg a a' h1 _ ih=>exact .agg a a' h1 fun i x y e1 e2=>ih i x y e1 e2 (all_get (by simpa only[di] using hc) e1)
  |tuple a a' h1 _ ih=>exact .tuple a a' h1 fun i x y e1 e2=>ih i x y e1 e2 (all_get (by simpa only[di] using hc) e1)
 where
  all_get:∀ {l:List AV} {i:Nat} {x:AV},fI n l=true→l[i]? =some x→di n x=true
    |[],_,_,_,h=>by simp at h
    | a::t,0,x,hc,h=>by
      simp only[fI,Bool.and_eq_true] at hc
      simp at h;subst h;exact hc.1
    | a::t,i+1,x,hc,h=>by
      simp only[fI,Bool.and_eq_true] at hc
      exact all_get hc.2 (by simpa using h)
  cells_low {e:AV} {j:Nat} {c:AV} (hc:di n e=true) (h:e.cells[j]? =some c):di n c=true:=by
    cases e with
    |agg cs=>exact all_get (l:=cs) (by simpa only[di] using hc) (by simpa [AV.cells] using h)
    | _=>(cases j with
      |zero=>simp[AV.cells] at h;subst h;exact hc
      |succ j=>simp[AV.cells] at h)
mutual
theorem lB:∀ (a b:AV),i7 a b=true→a=b:=fun a b h=>by
 unfold i7 at h
 split at h
 ·rename_i a b;cases a<;>cases b<;>simp_all
 ·simp only[Bool.and_eq_true,decide_eq_true_eq] at h
  obtain ⟨rfl,h⟩:=h
  rw[hU] at h
  simp only[beq_iff_eq] at h
  subst h;rfl
 ·rw[ly] at h
  simp only[beq_iff_eq] at h
  subst h;rfl
 ·simp only[Bool.and_eq_true] at h
  rw[beq_iff.1 h.1,beq_iff.1 h.2]
 ·rfl
 ·simp only[Bool.and_eq_true] at h
  rw[beq_iff.1 h.1,gQ _ _ h.2]
 ·rename_i f a g b
  simp only[Bool.and_eq_true] at h
  rw[gQ _ _ h.2]
  cases f<;>cases g<;>simp_all
 ·rename_i f i o l z g j p m y
  simp only[Bool.and_eq_true] at h
  obtain ⟨h1,h2,h3,h4,h5⟩:=h
  rw[beq_iff.1 h2,beq_iff.1 h3,beq_iff.1 h4,beq_iff.1 h5]
  cases f<;>cases g<;>simp_all
 ·rfl
 ·rfl
 ·rw[beq_iff.1 h]
 ·rfl
 ·simp only[Bool.and_eq_true] at h
  rw[beq_iff.1 h.1,gQ _ _ h.2.1,gQ _ _ h.2.2]
 ·rfl
 ·simp only[Bool.and_eq_true] at h
  rw[beq_iff.1 h.1,lB _ _ h.2]
 ·rfl
 ·rw[gQ _ _ h]
 ·rw[gQ _ _ h]
 ·cases h
theorem gQ:∀ (a b:List AV),eO a b=true→a=b
 |[],[],_=>rfl
 |a::t,b::u,h=>by
  simp only[eO,Bool.and_eq_true] at h
  rw[lB a b h.1,gQ t u h.2]
 |[],_::_,h=>by simp[eO] at h
 |_::_,[],h=>by simp[eO] at h
end
theorem ye:∀ (a b:List (AV × AV)),lp a b=true→a=b
 |[],[],_=>rfl
 |(a,a')::t,(b,b')::u,h=>by
  simp only[lp,Bool.and_eq_true] at h
  rw[lB a b h.1,lB a' b' h.2.1,ye t u h.2.2]
 |[],_::_,h=>by simp[lp] at h
 |_::_,[],h=>by simp[lp] at h
theorem yf:∀ (a b:List Nat),lr a b=true→a=b
 |[],[],_=>rfl
 |a::t,b::u,h=>by
  simp only[lr,Bool.and_eq_true] at h
  rw[beq_iff.1 h.1,yf t u h.2]
 |[],_::_,h=>by simp[lr] at h
 |_::_,[],h=>by simp[lr] at h
theorem yg {a b:Blk} (h:o9 a b=true):a=b:=by
 unfold o9 at h
 split at h
 ·rw[gQ _ _ h]
 ·simp only[Bool.and_eq_true] at h
  rw[beq_iff.1 h.1,yf _ _ h.2.1,ye _ _ h.2.2]
 ·cases h
theorem td (h:ab):∀ (L:List Nat) (k:Nat),hget (bG h L) k=if k∈L then hget h k else none
 |[],k=>by simp[bG,hget]
 |i::t,k=>by
  simp only[bG]
  by_cases e:k=i
  ·subst e;rw[pb];simp
  ·rw[nd _ _ e,td h t k];simp[e]
theorem EJ {h:ab} {L:List Nat} {k:Nat} {b:Blk} (hk:hget (bG h L) k=some b):k∈L∧hget h k=some b:=by
 rw[td] at hk
 split at hk
 ·exact ⟨by assumption,hk⟩
 ·cases hk
theorem pw {h:ab} {L:List Nat} {k:Nat} (hk:hget (bG h L) k≠none):k∈L∧hget h k≠none:=by
 rw[td] at hk
 split at hk
 ·exact ⟨by assumption,hk⟩
 ·exact absurd rfl hk
section
variable {G:aF} {w w':World} {I I':Nat→Prop} {α α':Nat→Option Nat} {H H1 Hd:ab} {L:List Nat} {nx:Nat}
theorem lC (r:Rel G w I α H) (L:List Nat):Rel G w I α (bG H L) where
 live id blk h:=r.live id blk (EJ h).2
 inj id id' b h1 h2:=r.inj id id' b (pw h1).2 (pw h2).2
 imm:=r.imm
 dom:=r.dom
 glob:=r.glob
theorem nt {b:Nat} (h:bD α (bG H L) b):∃id∈L,hget H id≠none∧α id=some b:=by
 obtain ⟨id,h1,h2⟩:=h
 exact ⟨id,(pw h1).1,(pw h1).2,h2⟩
def NB (n:Nat) (h1:ab) (i:Nat) (o:Option Blk):Prop:=i<n∧match hget h1 i with
 |none=>o=none
 |some b=>∃b',i8 n h1 b=some b'∧m8 n b'=true∧o=some b'
theorem nu:∀ {m:Mods} {p:Nat × Option Blk},p∈m→p.1∈m.keys
 |[],_,h=>by cases h
 |(k,b)::t,p,h=>by
  rcases List.mem_cons.1 h with rfl|h
  ·simp[Mods.keys]
  ·simp[Mods.keys,nu h]
theorem yh:∀ {m:Mods} {k:Nat},k∈m.keys→∃p∈m,p.1=k
 |[],_,h=>by cases h
 | (j,b)::t,k,h=>by
  simp only[Mods.keys,List.mem_cons] at h
  rcases h with rfl|h
  ·exact ⟨(k,b),by simp,rfl⟩
  ·obtain ⟨p,h1,h2⟩:=yh h
   exact ⟨p,by simp[h1],h2⟩
theorem nv:∀ (m:Mods) (h:ab) (k:Nat),(k∈m.keys→∃p∈m,p.1=k∧hget (Mods.app m h) k=p.2)∧(k∉m.keys→hget (Mods.app m h) k=hget h k)
 |[],_,_=>⟨fun h=>(by cases h),fun _=>rfl⟩
 | (j,b)::t,h,k=>by
  obtain ⟨i1,i2⟩:=nv t (bU h j b) k
  simp only[Mods.app,Mods.keys,List.mem_cons]
  refine ⟨fun hk=> ?_,fun hk=> ?_⟩
  ·by_cases ht:k∈Mods.keys t
   ·obtain ⟨p,h1,h2,h3⟩:=i1 ht
    exact ⟨p,.inr h1,h2,h3⟩
   ·have e:k=j:=hk.resolve_right ht
    subst e
    exact ⟨(k,b),.inl rfl,rfl,by rw[i2 ht,pb]⟩
  ·rw[i2 (fun h=>hk (.inr h)),nd _ _ (fun e=>hk (.inl e))]
theorem yi {n:Nat} {h1 h:ab}:∀ {L:List Nat} {m:Mods},f7 n h1 h L=some m→(∀p∈m,p.1∈L∧NB n h1 p.1 p.2)∧∀i∈L,i∈m.keys∨NB n h1 i (hget h i)
 |[],m,hm=>by
  simp only[f7,Option.some.injEq] at hm;subst hm
  exact ⟨by simp,by simp⟩
 | i :: t,m,hm=>by
  simp only[f7] at hm
  split at hm
  ·simp at hm
  ·rename_i hlt
   have hlt:=blt_iff.1 hlt
   split at hm
   ·rename_i m' hm'
    obtain ⟨a1,a2⟩:=yi hm'
    have up:∀p∈m',p.1∈i::t∧NB n h1 p.1 p.2:=fun p hp=>⟨by simp[(a1 p hp).1],(a1 p hp).2⟩
    have keep:NB n h1 i (hget h i)→(∀p∈m',p.1∈i::t∧NB n h1 p.1 p.2)∧∀j∈i::t,j∈m'.keys∨NB n h1 j (hget h j):=fun hi=>⟨up,fun j hj=>by
     rcases List.mem_cons.1 hj with rfl|hj
     ·exact .inr hi
     ·exact a2 j hj⟩
    have put:∀o,NB n h1 i o→(∀p∈(i,o)::m',p.1∈i::t∧NB n h1 p.1 p.2)∧∀j∈i::t,j∈Mods.keys ((i,o)::m')∨NB n h1 j (hget h j):=fun o hi=>⟨fun p hp=>by
     rcases List.mem_cons.1 hp with rfl|hp
     ·exact ⟨by simp,hi⟩
     ·exact up p hp,fun j hj=>by
     rcases List.mem_cons.1 hj with rfl|hj
     ·exact .inl (by simp[Mods.keys])
     ·exact (a2 j hj).imp (fun h=>by simp[Mods.keys,h]) id⟩
    split at hm
    ·rename_i e1 e2
     simp only[Option.some.injEq] at hm;subst hm
     exact keep ⟨hlt,by rw[e1];exact e2⟩
    ·rename_i e1 e2
     simp only[Option.some.injEq] at hm;subst hm
     exact put none ⟨hlt,by rw[e1]⟩
    ·rename_i b e1
     split at hm
     ·rename_i b' hb'
      split at hm
      ·rename_i hlow
       split at hm
       ·rename_i hs
        simp only[Option.some.injEq] at hm;subst hm
        refine keep ⟨hlt, ?_⟩
        rw[e1]
        split at hs
        ·rename_i c hc
         exact ⟨b',hb',hlow,by rw[hc,yg hs]⟩
        ·cases hs
       ·simp only[Option.some.injEq] at hm;subst hm
        exact put (some b') ⟨hlt,by rw[e1];exact ⟨b',hb',hlow,rfl⟩⟩
      ·simp at hm
     ·simp at hm
   ·simp at hm
theorem EK {n:Nat} {h1 h:ab} {m:Mods} (hm:f7 n h1 h L=some m):(∀i∈L,NB n h1 i (hget (Mods.app m h) i))∧∀i,i∉L→hget (Mods.app m h) i=hget h i:=by
 obtain ⟨a1,a2⟩:=yi hm
 refine ⟨fun i hi=> ?_,fun i hi=>(nv m h i).2 fun hk=> ?_⟩
 ·by_cases hk:i∈m.keys
  ·obtain ⟨p,h2,rfl,h4⟩:=(nv m h i).1 hk
   rw[h4];exact (a1 p h2).2
  ·rw[(nv m h i).2 hk]
   exact (a2 i hi).resolve_left hk
 ·obtain ⟨p,h2,rfl⟩:=yh hk
  exact hi (a1 p h2).1
theorem te {f:AV→Option AV} {I2:Nat→Prop} (hf:FrOk w I I2 α f):∀ {es es':List (AV × AV)},lv f es=some es'→es'.length=es.length∧∀ (i:Nat) x',es'[i]? =some x'→∃x,es[i]? =some x∧(∀y,Rep w I α x.1 y→Rep w I2 α x'.1 y)∧∀y,Rep w I α x.2 y→Rep w I2 α x'.2 y
 |[],es',h=>by
  simp only[lv,Option.some.injEq] at h;subst h
  exact ⟨rfl,by simp⟩
 | (a,b)::t,es',h=>by
  simp only[lv] at h
  split at h
  ·rename_i a' ha
   split at h
   ·rename_i b' hb
    split at h
    ·rename_i u hu
     simp only[Option.some.injEq] at h;subst h
     obtain ⟨h1,h2⟩:=te hf hu
     refine ⟨by simp[h1],fun i x' hx=> ?_⟩
     cases i with
     |zero=>simp at hx;subst hx;exact ⟨(a,b),rfl,fun y hy=>hf _ _ _ ha hy,fun y hy=>hf _ _ _ hb hy⟩
     |succ i=>simpa using h2 i x' (by simpa using hx)
    ·simp at h
   ·simp at h
  ·simp at h
theorem yj {n:Nat}:∀ {es:List (AV × AV)} {i:Nat} {x:AV × AV},m7 n es=true→es[i]? =some x→di n x.1=true∧di n x.2=true
 |[],_,_,_,h=>by simp at h
 |(a,b)::t,0,x,hc,h=>by
  simp only[m7,Bool.and_eq_true] at hc
  simp at h;subst h;exact ⟨hc.1,hc.2.1⟩
 |(a,b)::t,i+1,x,hc,h=>by
  simp only[m7,Bool.and_eq_true] at hc
  exact yj hc.2.2 (by simpa using h)
theorem yk {n:Nat} {b:Nat} {b0 b1:Blk} (rd:Rel G w' I' α' Hd) (hf:i8 n Hd b0=some b1) (hl:m8 n b1=true) (hα:∀id c,id<n→α' id=some c→α id=some c) (h:BRel w' I' α' b b0):
  BRel w' (cT I' α' Hd n) α b b1:=by
 have fr:=gi rd n 40
 cases b0 with
 | cells l=>
  simp only[i8] at hf
  split at hf
  ·rename_i l' hl'
   simp only[Option.some.injEq] at hf;subst hf
   obtain ⟨c,e,h1,h2,h3⟩:=h
   have hlen:=(jh hl').1
   have h4:=fr.list hl' h3
   refine ⟨c,e,h1,by rw[hlen];exact h2, ?_⟩
   rw[hlen]
   exact ⟨h4.1,fun i x y e1 e2=>rep_low hα (h4.2 i x y e1 e2) (rep_low.all_get hl e1)⟩
  ·simp at hf
 |siter s p=>
  simp only[i8,Option.some.injEq] at hf;subst hf
  exact h
 | mapb cl st es=>
  simp only[i8] at hf
  split at hf
  ·rename_i es' hes
   simp only[Option.some.injEq] at hf;subst hf
   obtain ⟨en,h1,h2,h4,h3⟩:=h
   obtain ⟨k1,k2⟩:=te fr hes
   refine ⟨en,h1,by rw[k1];exact h2,h4,fun i x' y e1 e2=> ?_⟩
   obtain ⟨x,g1,g2,g3⟩:=k2 i x' e1
   obtain ⟨q1,q2⟩:=h3 i x y g1 e2
   obtain ⟨l1,l2⟩:=yj hl e1
   exact ⟨rep_low hα (g2 _ q1) l1,rep_low hα (g3 _ q2) l2⟩
  ·simp at hf
 |miter m since seen last=>
  simp only[i8,Option.some.injEq] at hf;subst hf
  obtain ⟨mb,h1,h2⟩:=h
  exact ⟨mb,hα _ _ (blt_iff.1 (by simpa only[m8] using hl)) h1,h2⟩
theorem ym {m:Mods} (r:Rel G w I α H) (ev:Ev w I α (bG H L) w' I' α' H1) (rd:Rel G w' I' α' Hd) (hsub:∀id,hget Hd id≠none→hget H1 id≠none) (hn:∀id,α' id≠none→α id≠none∨nx≤id)
  (hm:f7 nx Hd H L=some m):
  Ev w I α H w' (cT I' α' Hd nx) α (Mods.app m H)∧Rel G w' (cT I' α' Hd nx) α (Mods.app m H)∧(∀id b,id<nx→α' id=some b→α id=some b)∧
  ∀id b,hget (Mods.app m H) id≠none→α id=some b→(id<nx∧hget Hd id≠none)∨(b<w.heap.size∧¬bD α (bG H L) b):=by
 obtain ⟨g1,g2⟩:=EK hm
 have hlow:∀id b,id<nx→α' id=some b→α id=some b:=fun id b hid h=>by
  rcases hn id (by rw[h];simp) with h1|h1
  ·cases h2:α id with
   |none=>exact absurd h2 h1
   |some c=>rw[ev.α_mono id c h2] at h;rw[←h]
  ·omega
 have inL:∀ {id:Nat},id∈L→hget (Mods.app m H) id≠none→id<nx∧hget Hd id≠none:=fun {id} hL h=>by
  obtain ⟨h1,h2⟩:=g1 id hL
  refine ⟨h1,fun e=> ?_⟩
  rw[e] at h2
  exact h h2
 have fr:∀b,cT I' α' Hd nx b→I b∨w.heap.size≤b∨bD α (bG H L) b:=fun b h=>by
  rcases h with h|⟨id,_,h1,h2⟩
  ·exact ev.Inew b h
  ·exact .inr (ev.own b ⟨id,hsub id h1,h2⟩)
 have ownH:∀ {b:Nat},bD α (bG H L) b→bD α H b:=fun h=>by
  obtain ⟨id,_,h1,h2⟩:=nt h
  exact ⟨id,h1,h2⟩
 have notcut:∀ {id b:Nat},id∉L→hget H id≠none→α id=some b→¬bD α (bG H L) b:=fun {id b} hL h1 h2 ho=>by
  obtain ⟨k,k1,k2,k3⟩:=nt ho
  exact hL (r.inj k id b k2 h1 k3 h2▸k1)
 have eo:Ev w I α H w' (cT I' α' Hd nx) α (Mods.app m H):=
  {os:=ev.os
   I_mono:=fun b h=> .inl (ev.I_mono b h)
   α_mono:=fun _ _ h=>h
   size:=ev.size
   frame:=fun b hb ho=>ev.frame b hb fun h=>ho (ownH h)
   shape:=ev.shape
   Inew:=fun b h=>(fr b h).imp (fun h=>h) (Or.imp (fun h=>h) ownH)
   own:=fun b ⟨id,h1,h2⟩=>by
    by_cases hL:id∈L
    ·obtain ⟨_,k2⟩:=inL hL h1
     exact (ev.own b ⟨id,hsub id k2,ev.α_mono id b h2⟩).imp (fun h=>h) ownH
    ·rw[g2 id hL] at h1
     exact .inr ⟨id,h1,h2⟩}
 refine ⟨eo,⟨fun id blk h=> ?_,fun id id' b h1 h2 h3 h4=> ?_,fun b h=> ?_,fun id b h=>Nat.lt_of_lt_of_le (r.dom id b h) ev.size,f8 r eo⟩,hlow,fun id b h1 h2=> ?_⟩
 ·by_cases hL:id∈L
  ·obtain ⟨k1,k2⟩:=g1 id hL
   rw[h] at k2
   split at k2
   ·cases k2
   ·rename_i b0 hb0
    obtain ⟨b1,f1,f2,f3⟩:=k2
    cases f3
    obtain ⟨b,q1,q2,q3⟩:=rd.live id b0 hb0
    refine ⟨b,hlow id b k1 q1, ?_,yk rd f1 f2 hlow q3⟩
    rintro (h4|⟨k,h4,h5,h6⟩)
    ·exact q2 h4
    ·have:=rd.inj k id b h5 (by rw[hb0];simp) h6 q1
     omega
  ·rw[g2 id hL] at h
   obtain ⟨b,h1,h2,h3⟩:=r.live id blk h
   have hnc:=notcut hL (by rw[h];simp) h1
   have hb:=r.dom id b h1
   refine ⟨b,h1,fun h4=> ?_,h3.ev r eo (ev.frame b hb hnc)⟩
   rcases fr b h4 with h5|h5|h5
   ·exact h2 h5
   ·omega
   ·exact hnc h5
 ·have cross:∀ {i j:Nat},i∈L→j∉L→hget (Mods.app m H) i≠none→hget (Mods.app m H) j≠none→α i=some b→α j=some b→False:=fun {i j} hi hj a1 a2 a3 a4=>by
   obtain ⟨_,k2⟩:=inL hi a1
   rw[g2 j hj] at a2
   rcases ev.own b ⟨i,hsub i k2,ev.α_mono i b a3⟩ with h|h
   ·have:=r.dom j b a4;omega
   ·exact notcut hj a2 a4 h
  by_cases hL:id∈L<;>by_cases hL':id'∈L
  ·exact rd.inj id id' b (inL hL h1).2 (inL hL' h2).2 (ev.α_mono id b h3) (ev.α_mono id' b h4)
  ·exact (cross hL hL' h1 h2 h3 h4).elim
  ·exact (cross hL' hL h2 h1 h4 h3).elim
  ·rw[g2 id hL] at h1
   rw[g2 id' hL'] at h2
   exact r.inj id id' b h1 h2 h3 h4
 ·rcases h with h|⟨id,_,_,h⟩
  ·exact rd.imm b h
  ·exact rd.dom id b h
 ·by_cases hL:id∈L
  ·exact .inl (inL hL h1)
  ·rw[g2 id hL] at h1
   exact .inr ⟨r.dom id b h2,notcut hL h1 h2⟩
theorem BRel.monoA {α2:Nat→Option Nat} {k:Nat} {bk:Blk} (h:BRel w I α k bk) (hα:∀id b,α id=some b→α2 id=some b):BRel w I α2 k bk:=by
 have mono:∀ {a:AV} {u:Value},Rep w I α a u→Rep w I α2 a u:=fun h=>h.mono (fun _ h=>h) hα (fun _ _ _=>rfl) (fun _ _ _=>rfl)
 cases bk with
 |cells l=>obtain ⟨cc,e,h1,h2,h3⟩:=h;exact ⟨cc,e,h1,h2,h3.1,fun i x y e1 e2=>mono (h3.2 i x y e1 e2)⟩
 |siter s p=>exact h
 |mapb cl st es=>obtain ⟨en,h1,h2,h4,h3⟩:=h;exact ⟨en,h1,h2,h4,fun i x y e1 e2=>⟨mono (h3 i x y e1 e2).1,mono (h3 i x y e1 e2).2⟩⟩
 |miter m since seen last=>obtain ⟨mb,h1,h2⟩:=h;exact ⟨mb,hα _ _ h1,h2⟩
theorem yn {v:AV} {u:Value} {rid m0:Nat} {res:AV × Option (List AV) × Mods} (r:Rel G w I α H) (hrid:α rid=none) (h:dX G w I α (bG H L) nx v H1 m0 u w') (he:lookEnd L rid nx H v H1=some res):
  Post G w I α H rid nx (eu L rid nx H res).1 (eu L rid nx H res).2.1 nx u w':=by
 obtain ⟨⟨I',α',ev,r1,hv,hn⟩,_⟩:=h
 have hn':∀id,α' id≠none→α id≠none∨nx≤id:=fun id h=>(hn id h).imp (fun h=>h) (·.1)
 have plain:∀ {v:AV},Rep w' I' α' v u→lookEnd.lookPlain L nx H H1 v=some res→Post G w I α H rid nx (eu L rid nx H res).1 (eu L rid nx H res).2.1 nx u w':=fun {v} hv he=>by
  unfold lookEnd.lookPlain at he
  split at he
  ·rename_i v' hf
   split at he
   ·rename_i m hl hm
    simp only[Option.some.injEq] at he;subst he
    obtain ⟨eo,ro,hlow,_⟩:=ym r ev r1 (fun _ h=>h) hn' hm
    exact ⟨⟨_,α,eo,ro,rep_low hlow (gi r1 nx 40 v v' u hf hv) hl,fun _ h=> .inl h⟩,Nat.le_refl _⟩
   ·simp at he
  ·simp at he
 unfold lookEnd at he
 split at he
 ·rename_i i len sz
  split at he
  ·exact plain hv he
  ·rename_i hi
   have hi:=nc hi
   split at he
   ·rename_i l hl
    split at he
    ·rename_i l' hl'
     split at he
     ·rename_i m hlo hm
      simp only[Option.some.injEq] at he;subst he
      have hsub:∀id,hget (aZ H1 i) id≠none→id≠i∧hget H1 id≠none:=fun id h=>by
       by_cases e:id=i
       ·subst e;rw[fb] at h;exact absurd rfl h
       ·rw[ez _ e] at h;exact ⟨e,h⟩
      obtain ⟨eo,ro,hlow,hK⟩:=ym r ev (pg r1 i) (fun id h=>(hsub id h).2) hn' hm
      obtain ⟨b,q1,q2,q3⟩:=r1.live i _ hl
      have hnF:¬cT I' α' (aZ H1 i) nx b:=by
       rintro (h|⟨k,_,h2,h3⟩)
       ·exact q2 h
       ·exact (hsub k h2).1 (r1.inj k i b (hsub k h2).2 (by rw[hl];simp) h3 q1)
      have hmono:∀id c,α id=some c→upd α rid b id=some c:=fun id c h=>by
       rw[bQ];exact h
       intro e;subst e;rw[hrid] at h;cases h
      have apart:∀id,hget (Mods.app m H) id≠none→α id=some b→False:=fun id h1 h2=>by
       rcases hK id b h1 h2 with ⟨h3,h4⟩|⟨h3,h4⟩
       ·have:=r1.inj id i b (hsub id h4).2 (by rw[hl];simp) (ev.α_mono id b h2) q1
        omega
       ·rcases ev.own b ⟨i,by rw[hl];simp,q1⟩ with h|h
        ·omega
        ·exact h4 h
      have eo2:Ev w I α H w' (cT I' α' (aZ H1 i) nx) (upd α rid b) (aY (Mods.app m H) rid (.cells l')):=
       ⟨eo.os,eo.I_mono,hmono,eo.size,eo.frame,eo.shape,eo.Inew,fun c ⟨id,h1,h2⟩=>by
        by_cases e:id=rid
        ·subst e;rw[cM] at h2;cases h2
         rcases ev.own b ⟨i,by rw[hl];simp,q1⟩ with h|h
         ·exact .inl h
         ·obtain ⟨k,_,k1,k2⟩:=nt h
          exact .inr ⟨k,k1,k2⟩
        ·rw[bQ _ _ e] at h2
         rw[cR _ _ e] at h1
         exact eo.own c ⟨id,h1,h2⟩⟩
      refine ⟨⟨_,upd α rid b,eo2,⟨fun id blk h=> ?_,fun id id' c h1 h2 h3 h4=> ?_,ro.imm,fun id c h=> ?_,f8 r eo2⟩, ?_,fun id h=> ?_⟩,Nat.le_refl _⟩
      ·by_cases e:id=rid
       ·subst e
        simp only[eu] at h
        rw[nf] at h;cases h
        refine ⟨b,cM _ _ _,hnF, ?_⟩
        have:=yk (n:=nx) (b0:= .cells l) (b1:= .cells l') (pg r1 i) (by simp only[i8,hl']) (by simpa only[m8] using hlo) hlow q3
        exact this.monoA hmono
       ·simp only[eu] at h
        rw[cR _ _ e] at h
        obtain ⟨c,h1,h2,h3⟩:=ro.live id blk h
        exact ⟨c,hmono _ _ h1,h2,h3.monoA hmono⟩
      ·simp only[eu] at h1 h2
       by_cases e:id=rid<;>by_cases e':id'=rid
       ·rw[e,e']
       ·subst e
        rw[cM] at h3;cases h3
        rw[bQ _ _ e'] at h4
        rw[cR _ _ e'] at h2
        exact (apart id' h2 h4).elim
       ·subst e'
        rw[cM] at h4;cases h4
        rw[bQ _ _ e] at h3
        rw[cR _ _ e] at h1
        exact (apart id h1 h3).elim
       ·rw[bQ _ _ e] at h3
        rw[bQ _ _ e'] at h4
        rw[cR _ _ e] at h1
        rw[cR _ _ e'] at h2
        exact ro.inj id id' c h1 h2 h3 h4
      ·by_cases e:id=rid
       ·subst e;rw[cM] at h;cases h;exact r1.dom i b q1
       ·rw[bQ _ _ e] at h;exact ro.dom id c h
      ·cases hv with
       |rsl _ _ _ _ _ cap b' hb hcap ho=>
        rw[q1] at hb;cases hb
        exact .rsl _ _ _ _ _ cap b (cM _ _ _) hcap ho
      ·by_cases e:id=rid
       ·exact .inr (.inl e)
       ·rw[bQ _ _ e] at h;exact .inl h
     ·simp at he
    ·simp at he
   ·simp at he
 ·exact plain hv he
end
end Go.Proofs.Abs
/- Calls. -/
namespace Go.Proofs.Abs
open Go
section
variable {P:Program} {G:aF} {w w':World} {I I' I2:Nat→Prop} {α α' α2:Nat→Option Nat} {H H1 H2:ab} {rid nx nx':Nat}
theorem fK {α:Nat→Option Nat} {b:Nat}:¬bD α [] b:=fun ⟨_,h,_⟩=>h rfl
theorem ji (hg:∀g l,G g=some l→ae l=true) (r:Rel G w I α H):Rel G w I (fun _=>none) [] where
 live id blk h:=by simp[hget] at h
 inj id id' b h:=absurd rfl h
 imm:=r.imm
 dom id b h:=by simp at h
 glob g l h:=by
  obtain ⟨h1,h2⟩:=r.glob g l h
  refine ⟨h1,fun j x hx=> ?_⟩
  obtain ⟨y,h3,h4⟩:=h2 j x hx
  exact ⟨y,h3,rep_closed h4 (rep_closed.all_get (hg g l h) hx)⟩
theorem yp (ev:Ev w I (fun _=>none) [] w' I' α' H1) (hN:∀b,I2 b→I' b∨bD α' H1 b):∀b,I2 b→I b∨w.heap.size≤b:=fun b h=>by
 rcases hN b h with h|h
 ·rcases ev.Inew b h with h|h|h
  ·exact .inl h
  ·exact .inr h
  ·exact absurd h fK
 ·rcases ev.own b h with h|h
  ·exact .inr h
  ·exact absurd h fK
theorem tf (ev:Ev w I (fun _=>none) [] w' I' α' H1) (hI:∀b,I' b→I2 b) (hN:∀b,I2 b→I' b∨bD α' H1 b)
  (hα:∀id b,α id=some b→α2 id=some b) (hO:∀b,bD α2 H2 b→w.heap.size≤b∨bD α H b):Ev w I α H w' I2 α2 H2 where
 os:=ev.os
 I_mono b h:=hI b (ev.I_mono b h)
 α_mono:=hα
 size:=ev.size
 frame b hb _:=ev.frame b hb fK
 shape:=ev.shape
 Inew b h:=(yp ev hN b h).imp id .inl
 own:=hO
theorem yq (r:Rel G w I α H) (ev:Ev w I (fun _=>none) [] w' I' α' H1) (r1:Rel G w' I' α' H1) (hI:∀b,I' b→I2 b) (hN:∀b,I2 b→I' b∨bD α' H1 b):Rel G w' I2 α H:=by
 have eo:Ev w I α H w' I2 α H:=tf ev hI hN (fun _ _ h=>h) (fun _ h=> .inr h)
 refine ⟨fun id blk h=> ?_,r.inj,fun b h=> ?_,fun id b h=>Nat.lt_of_lt_of_le (r.dom id b h) ev.size,f8 r eo⟩
 ·obtain ⟨b,h1,h2,h3⟩:=r.live id blk h
  have hb:=r.dom id b h1
  refine ⟨b,h1,fun h4=> ?_,h3.ev r eo (ev.frame b hb fK)⟩
  rcases yp ev hN b h4 with h5|h5
  ·exact h2 h5
  ·omega
 ·rcases hN b h with h|⟨id,_,h⟩
  ·exact r1.imm b h
  ·exact r1.dom id b h
theorem px {n:Nat}:∀b,cT I' α' H1 n b→I' b∨bD α' H1 b:=fun _ h=>h.imp id fun ⟨id,_,h2,h3⟩=>⟨id,h2,h3⟩
theorem kj {v v1:AV} {u:Value} {m d:Nat} (r:Rel G w I α H) (h:dX G w I (fun _=>none) [] 0 v H1 m u w') (hf:aH 0 H1 d v=some v1) (hc:ad v1=true):Post G w I α H rid nx v1 H nx u w':=by
 obtain ⟨⟨I',α',ev,r1,hv,_⟩,_⟩:=h
 refine ⟨⟨cT I' α' H1 0,α,tf ev (fun _ h=> .inl h) px (fun _ _ h=>h) (fun _ h=> .inr h),yq r ev r1 (fun _ h=> .inl h) px,rep_closed (gi r1 0 d v v1 u hf hv) hc,fun _ h=> .inl h⟩,Nat.le_refl _⟩
theorem yr {v:AV} {u:Value} {i b:Nat} {l l':List AV} (r:Rel G w I α H) (hrid:α rid=none) (ev:Ev w I (fun _=>none) [] w' I' α' H1) (r1:Rel G w' I' α' H1) (hi:hget H1 i=some (.cells l)) (hb:α' i=some b)
  (hl:bJ (aH 0 (aZ H1 i) 40) l=some l') (hc:ae l'=true) (hv:∀I2,Rep w' I2 (upd α rid b) v u):Post G w I α H rid nx v (aY H rid (.cells l')) nx u w':=by
 have hN:∀c,cT I' α' (aZ H1 i) 0 c→I' c∨bD α' H1 c:=fun c h=>h.imp id fun ⟨id,_,h2,h3⟩=>⟨id,fun h4=>h2 (by
  by_cases e:id=i
  ·subst e;exact fb _ _
  ·rw[ez _ e];exact h4),h3⟩
 have hI:∀c,I' c→cT I' α' (aZ H1 i) 0 c:=fun _ h=> .inl h
 have hα:∀id c,α id=some c→upd α rid b id=some c:=fun id c h=>by
  rw[bQ];exact h
  intro e;subst e;rw[hrid] at h;cases h
 have hnew:w.heap.size≤b:=by
  rcases ev.own b ⟨i,by rw[hi];simp,hb⟩ with h|h
  ·exact h
  ·exact absurd h fK
 have hO:∀c,bD (upd α rid b) (aY H rid (.cells l')) c→w.heap.size≤c∨bD α H c:=fun c ⟨id,h1,h2⟩=>by
  by_cases e:id=rid
  ·subst e;rw[cM] at h2;cases h2;exact .inl hnew
  ·rw[bQ _ _ e] at h2
   rw[cR _ _ e] at h1
   exact .inr ⟨id,h1,h2⟩
 have eo:Ev w I α H w' (cT I' α' (aZ H1 i) 0) (upd α rid b) (aY H rid (.cells l')):=tf ev hI hN hα hO
 have ro:=yq r ev r1 hI hN
 refine ⟨⟨_,_,eo,⟨fun id blk h=> ?_,fun id id' c h1 h2 h3 h4=> ?_,ro.imm,fun id c h=> ?_,f8 r eo⟩,hv _,fun id h=> ?_⟩,Nat.le_refl _⟩
 ·by_cases e:id=rid
  ·subst e
   rw[nf] at h;cases h
   obtain ⟨b',e1,e2,e3⟩:=r1.live i _ hi
   rw[hb] at e1;cases e1
   refine ⟨b,cM _ _ _, ?_, ?_⟩
   ·rintro (h|⟨k,_,h2,h3⟩)
    ·exact e2 h
    ·by_cases ek:k=i
     ·subst ek;exact h2 (fb _ _)
     ·rw[ez _ ek] at h2
      exact ek (r1.inj k i b h2 (by rw[hi];simp) h3 hb)
   ·obtain ⟨c,ty,f1,f2,f3⟩:=e3
    have hlen:=(jh hl).1
    exact ⟨c,ty,f1,by rw[hlen];exact f2,by
     rw[hlen]
     exact gP ((gi (pg r1 i) 0 40).list hl f3) hc⟩
  ·rw[cR _ _ e] at h
   obtain ⟨c,h1,h2,h3⟩:=r.live id blk h
   obtain ⟨c',h4,h5,_⟩:=ro.live id blk h
   rw[h1] at h4;cases h4
   exact ⟨c,by rw[bQ _ _ e];exact h1,h5,h3.ev r eo (ev.frame c (r.dom id c h1) fK)⟩
 ·by_cases e:id=rid
  ·subst e
   rw[cM] at h3;cases h3
   by_cases e':id'=id
   ·exact e'.symm
   ·rw[bQ _ _ e'] at h4
    have:=r.dom id' b h4
    omega
  ·rw[bQ _ _ e] at h3
   by_cases e':id'=rid
   ·subst e'
    rw[cM] at h4;cases h4
    have:=r.dom id b h3
    omega
   ·rw[bQ _ _ e'] at h4
    rw[cR _ _ e] at h1
    rw[cR _ _ e'] at h2
    exact r.inj id id' c h1 h2 h3 h4
 ·by_cases e:id=rid
  ·subst e;rw[cM] at h;cases h;exact r1.dom i b hb
  ·rw[bQ _ _ e] at h;exact ro.dom id c h
 ·by_cases e:id=rid
  ·exact .inr (.inl e)
  ·rw[bQ _ _ e] at h;exact .inl h
theorem yt {v v1:AV} {u:Value} (h:dX G w I α H nx v H1 nx' u w') (hf:aH nx H1 40 v=some v1):Post G w I α H rid nx v1 (fa nx H1) nx' u w':=by
 obtain ⟨⟨I',α',ev,r1,hv,hn⟩,hle⟩:=h
 have hb:∀ {id},hget (fa nx H1) id≠none→id<nx∧hget H1 id≠none:=fun {id} h=>by
  rw[w7] at h
  split at h
  ·exact ⟨by assumption,h⟩
  ·exact absurd rfl h
 have hO:∀b,bD α' (fa nx H1) b→bD α' H1 b:=fun b ⟨id,h1,h2⟩=>⟨id,(hb h1).2,h2⟩
 have e2:Ev w' I' α' H1 w' (cT I' α' H1 nx) α' (fa nx H1):=⟨.refl _,fun _ h=> .inl h,fun _ _ h=>h,Nat.le_refl _,fun _ _ _=>rfl,fun _ _=>rfl,fun b h=>(px b h).imp id .inr,fun b h=> .inr (hO b h)⟩
 refine ⟨⟨_,_,ev.trans e2,⟨fun id blk h=> ?_,fun id id' b h1 h2=>r1.inj id id' b (hb h1).2 (hb h2).2,fun b h=> ?_,r1.dom,f8 r1 e2⟩,gi r1 nx 40 v v1 u hf hv,fun id h=>(hn id h).imp (fun h=>h) .inr⟩,hle⟩
 ·rw[w7] at h
  split at h
  ·rename_i hlt
   obtain ⟨b,h1,h2,h3⟩:=r1.live id blk h
   refine ⟨b,h1, ?_,h3.ev r1 e2 rfl⟩
   rintro (h4|⟨k,h4,h5,h6⟩)
   ·exact h2 h4
   ·have:=r1.inj k id b h5 (by rw[h];simp) h6 h1
    omega
  ·cases h
 ·rcases px b h with h|⟨id,_,h⟩
  ·exact r1.imm b h
  ·exact r1.dom id b h
theorem tg {v:AV} {u:Value} (h:dX G w I α H nx v H1 nx' u w'):Post G w I α H rid nx v H1 nx' u w':=by
 obtain ⟨⟨I',α',ev,r1,hv,hn⟩,hle⟩:=h
 exact ⟨⟨I',α',ev,r1,hv,fun id h=>(hn id h).imp (fun h=>h) .inr⟩,hle⟩
theorem yu {v v1:AV} {u:Value} {m:Nat} {h2:ab} {ft:Foot} (r:Rel G w I α H) (hrid:α rid=none) (h:dX G w I (fun _=>none) [] 0 v H1 m u w')
  (hi:fH H1 v rid H nx=some (v1,h2,nx',ft)):Post G w I α H rid nx v1 h2 nx' u w':=by
 unfold fH at hi
 split at hi
 ·rename_i i len sz
  split at hi
  ·rename_i l hl
   split at hi
   ·rename_i l' hl'
    split at hi
    ·rename_i hc
     simp only[Option.some.injEq,Prod.mk.injEq] at hi
     obtain ⟨rfl,rfl,rfl,rfl⟩:=hi
     obtain ⟨⟨I',α',ev,r1,hv,_⟩,_⟩:=h
     cases hv with
     |rsl _ _ _ _ _ cap b hb hcap ho=>exact yr r hrid ev r1 hl hb hl' hc fun I2=> .rsl _ _ _ _ _ cap b (cM _ _ _) hcap ho
    ·simp at hi
   ·simp at hi
  ·simp at hi
 ·rename_i i off
  split at hi
  ·rename_i l hl
   split at hi
   ·rename_i l' hl'
    split at hi
    ·rename_i hc
     simp only[Option.some.injEq,Prod.mk.injEq] at hi
     obtain ⟨rfl,rfl,rfl,rfl⟩:=hi
     obtain ⟨⟨I',α',ev,r1,hv,_⟩,_⟩:=h
     cases hv with
     |ptr _ _ b hb=>exact yr r hrid ev r1 hl hb hl' hc fun I2=> .ptr _ _ b (cM _ _ _)
    ·simp at hi
   ·simp at hi
  ·simp at hi
 ·split at hi
  ·rename_i v' hf
   split at hi
   ·rename_i hc
    simp only[Option.some.injEq,Prod.mk.injEq] at hi
    obtain ⟨rfl,rfl,rfl,rfl⟩:=hi
    exact kj r h hf hc
   ·simp at hi
  ·simp at hi
theorem yv {v v1:AV} {nx m:Nat} {ft:Foot} {h2:ab} (hi:fH H1 v rid H nx=some (v1,h2,m,ft)):Loc (fH H1 v rid) H nx v1 h2 m ft:=by
 unfold fH at hi
 split at hi
 ·split at hi
  ·rename_i l hl
   split at hi
   ·rename_i l' hl'
    split at hi
    ·rename_i hc
     simp only[Option.some.injEq,Prod.mk.injEq] at hi
     obtain ⟨rfl,rfl,rfl,rfl⟩:=hi
     exact .one rfl ⟨rfl,[(rid,some (.cells l'))],rfl,by simp,fun h3 nx3 _=>by simp only[fH,hl,hl',hc];rfl⟩
    ·simp at hi
   ·simp at hi
  ·simp at hi
 ·split at hi
  ·rename_i l hl
   split at hi
   ·rename_i l' hl'
    split at hi
    ·rename_i hc
     simp only[Option.some.injEq,Prod.mk.injEq] at hi
     obtain ⟨rfl,rfl,rfl,rfl⟩:=hi
     exact .one rfl ⟨rfl,[(rid,some (.cells l'))],rfl,by simp,fun h3 nx3 _=>by simp only[fH,hl,hl',hc];rfl⟩
    ·simp at hi
   ·simp at hi
  ·simp at hi
 ·rename_i hn1 hn2
  split at hi
  ·rename_i v' hf
   split at hi
   ·rename_i hc
    simp only[Option.some.injEq,Prod.mk.injEq] at hi
    obtain ⟨rfl,rfl,rfl,rfl⟩:=hi
    refine .one rfl ⟨rfl,[],rfl,by simp,fun h3 nx3 _=> ?_⟩
    unfold fH
    split
    ·exact absurd rfl (hn1 _ _ _)
    ·exact absurd rfl (hn2 _ _)
    ·simp only[hf,hc];rfl
   ·simp at hi
  ·simp at hi
theorem py {x i:Nat} {acc:List Nat} (h:x∈acc):x∈ln i acc:=by
 unfold ln
 split
 ·exact h
 ·exact List.mem_cons_of_mem _ h
mutual
theorem pz {x:Nat}:∀ (v:AV) (acc:List Nat),x∈acc→x∈er v acc:=fun v acc h=>by
 cases v with
 |ptr i o=>simp only[er];exact py h
 |rsl o i a l z=>simp only[er];exact py h
 |map i=>simp only[er];exact py h
 |fptr cs o=>simp only[er];exact jj cs acc h
 |fsl f cs=>simp only[er];exact jj cs acc h
 |agg cs=>simp only[er];exact jj cs acc h
 |tuple cs=>simp only[er];exact jj cs acc h
 |func f a b=>simp only[er];exact jj b _ (jj a _ h)
 |iface t v=>simp only[er];exact pz v acc h
 |_=>simp only[er];exact h
theorem jj {x:Nat}:∀ (l:List AV) (acc:List Nat),x∈acc→x∈bg l acc
 |[],_,h=>h
 |a::t,acc,h=>by simp only[bg];exact jj t _ (pz a _ h)
end
theorem yw {x:Nat}:∀ (l:List (AV × AV)) (acc:List Nat),x∈acc→x∈o8 l acc
 |[],_,h=>h
 |(a,b)::t,acc,h=>by simp only[o8];exact yw t _ (pz b _ (pz a _ h))
theorem EL {x:Nat} (b:Blk) (acc:List Nat) (h:x∈acc):x∈sv b acc:=by
 cases b with
 |cells l=>exact jj l acc h
 |siter s p=>exact h
 |mapb c s es=>exact yw es acc h
 |miter m a b c=>simp only[sv];exact py h
theorem pA {x:Nat} {h:ab}:∀ (l:List Nat) (acc:List Nat),x∈acc→x∈i6 h l acc
 |[],_,hx=>hx
 |i::t,acc,hx=>by
  simp only[i6]
  split
  ·exact pA t _ (EL _ _ hx)
  ·exact pA t _ hx
theorem yx {x:Nat} {h:ab}:∀ (d:Nat) (l:List Nat),x∈l→x∈bv h d l
 |0,_,hx=>hx
 |d+1,l,hx=>by simp only[bv];exact yx d _ (pA l l hx)
theorem ti {h h2:ab}:∀ (l acc:List Nat),(∀i∈l,hget h2 i=hget h i)→i6 h2 l acc=i6 h l acc
 |[],_,_=>rfl
 |i::t,acc,hk=>by
  simp only[i6]
  rw[hk i (by simp)]
  split
  ·exact ti t _ fun j hj=>hk j (by simp[hj])
  ·exact ti t _ fun j hj=>hk j (by simp[hj])
theorem nw {h h2:ab}:∀ (d:Nat) (l:List Nat),(∀i∈bv h d l,hget h2 i=hget h i)→bv h2 d l=bv h d l
 |0,_,_=>rfl
 |d+1,l,hk=>by
  simp only[bv] at hk⊢
  rw[ti l l fun i hi=>hk i (yx d _ (pA l l hi))]
  exact nw d _ hk
theorem lD {h h2:ab}:∀ (L:List Nat),(∀i∈L,hget h2 i=hget h i)→bG h2 L=bG h L
 |[],_=>rfl
 |i::t,hk=>by
  simp only[bG]
  rw[hk i (by simp),lD t fun j hj=>hk j (by simp[hj])]
theorem tj {n:Nat} {h1 h h2:ab}:∀ (L:List Nat),(∀i∈L,hget h2 i=hget h i)→f7 n h1 h2 L=f7 n h1 h L
 |[],_=>rfl
 |i::t,hk=>by
  simp only[f7]
  rw[hk i (by simp),tj t fun j hj=>hk j (by simp[hj])]
theorem yy {L:List Nat} {id nx:Nat} {h h2 h1:ab} {v:AV} (hk:∀i∈L,hget h2 i=hget h i):lookEnd L id nx h2 v h1=lookEnd L id nx h v h1:=by
 have p:∀v,lookEnd.lookPlain L nx h2 h1 v=lookEnd.lookPlain L nx h h1 v:=fun v=>by
  unfold lookEnd.lookPlain
  rw[tj L hk]
 unfold lookEnd
 simp only[p,tj L hk]
theorem tk:∀ (m:Mods) (h:ab) (k:Nat) (b:Option Blk),Mods.app (m++[(k,b)]) h=bU (Mods.app m h) k b
 |[],_,_,_=>rfl
 |(j,c)::t,h,k,b=>by simp only[List.cons_append,Mods.app];exact tk t _ k b
theorem yz {L:List Nat} {id nx:Nat} {h:ab} {res:AV × Option (List AV) × Mods} {v:AV} {h':ab} {nx':Nat} {ft:Foot} {f:ab→Nat→Option (AV × ab × Nat × Foot)} (he:eu L id nx h res=(v,h',nx',ft))
  (hf:∀h2,(∀i∈L,hget h2 i=hget h i)→f h2 nx=some (eu L id nx h2 res)):Loc f h nx v h' nx' ft:=by
 obtain ⟨u,row,m⟩:=res
 have hall:ft.all=false:=by rw[show ft=(eu L id nx h (u,row,m)).2.2.2 by rw[he]];rfl
 refine ⟨fun _=> ?_,fun h=>by rw[hall] at h;cases h⟩
 cases row with
 |none=>
  simp only[eu,Prod.mk.injEq] at he
  obtain ⟨rfl,rfl,rfl,rfl⟩:=he
  refine ⟨rfl,m,rfl,fun p hp=>List.mem_cons_of_mem _ (nu hp),fun h2 nx2 hk hnx=> ?_⟩
  have:=hnx.resolve_right (by simp)
  subst this
  rw[hf h2 fun i hi=>hk i (by simp[hi])]
  rfl
 | some l=>
  simp only[eu,Prod.mk.injEq] at he
  obtain ⟨rfl,rfl,rfl,rfl⟩:=he
  refine ⟨rfl,m++[(id,some (.cells l))],by rw[tk];rfl,fun p hp=> ?_,fun h2 nx2 hk hnx=> ?_⟩
  ·rcases List.mem_append.1 hp with hp|hp
   ·exact List.mem_cons_of_mem _ (nu hp)
   ·simp only[List.mem_singleton] at hp;subst hp;simp
  ·have:=hnx.resolve_right (by simp)
   subst this
   rw[hf h2 fun i hi=>hk i (by simp[hi]),tk]
   rfl
theorem nz:∀ {a b:Mods},gL a b=a++b
 |[],_=>rfl
 |_::t,b=>by simp only[gL,List.cons_append,nz (a:=t)]
theorem pB {h1:ab}:∀ {L:List Nat} {p:Nat × Option Blk},p∈eP h1 L→p.1∈L∧p.2=hget h1 p.1
 |[],_,h=>by cases h
 |i::t,p,h=>by
  simp only[eP,List.mem_cons] at h
  rcases h with rfl|h
  ·simp
  ·obtain ⟨a,b⟩:=pB h;exact ⟨by simp[a],b⟩
theorem yA {h1:ab}:∀ {L:List Nat} {i:Nat},i∈L→(i,hget h1 i)∈eP h1 L
 |j::t,i,h=>by
  simp only[eP,List.mem_cons]
  rcases List.mem_cons.1 h with rfl|h
  ·exact .inl rfl
  ·exact .inr (yA h)
theorem lE {nx:Nat} {h1:ab}:∀ {l:ab} {p:Nat × Option Blk},p∈ey nx h1 l→nx≤p.1∧p.2=hget h1 p.1
 |[],_,h=>by cases h
 | (k,b)::t,p,h=>by
  simp only[ey] at h
  split at h
  ·exact lE h
  ·rename_i hk
   have hk:=nc hk
   rcases List.mem_cons.1 h with rfl|h
   ·exact ⟨by simp only;omega,rfl⟩
   ·exact lE h
theorem tm {nx:Nat} {h1:ab}:∀ {l:ab} {i:Nat},nx≤i→hget l i≠none→(i,hget h1 i)∈ey nx h1 l
 |[],_,_,h=>absurd rfl h
 | (k,b)::t,i,hi,h=>by
  simp only[ey]
  by_cases e:k=i
  ·subst e
   rw[pa (by omega)]
   simp
  ·rw[f9 _ _ e] at h
   split
   ·exact tm hi h
   ·exact List.mem_cons_of_mem _ (tm hi h)
theorem EM {nx:Nat} {h1 h:ab} {L:List Nat} (hfr:∀i,nx≤i→hget h i=none) (i:Nat):
  hget (Mods.app (gL (eP h1 L) (ey nx h1 h1)) h) i=if i∈L∨nx≤i then hget h1 i else hget h i:=by
 rw[nz]
 obtain ⟨a1,a2⟩:=nv (eP h1 L++ey nx h1 h1) h i
 by_cases hk:i∈Mods.keys (eP h1 L++ey nx h1 h1)
 ·obtain ⟨p,h2,rfl,h4⟩:=a1 hk
  rw[h4]
  rcases List.mem_append.1 h2 with h2|h2
  ·obtain ⟨b1,b2⟩:=pB h2
   rw[if_pos (.inl b1),b2]
  ·obtain ⟨b1,b2⟩:=lE h2
   rw[if_pos (.inr b1),b2]
 ·rw[a2 hk]
  split
  ·rename_i hc
   rcases hc with hc|hc
   ·exact absurd (nu (List.mem_append_left _ (yA (h1:=h1) hc))) hk
   ·rw[hfr i hc]
    cases hh:hget h1 i with
    |none=>rfl
    |some b=>exact absurd (nu (List.mem_append_right _ (tm (nx:=nx) (h1:=h1) hc (by rw[hh];simp)))) hk
  ·rfl
theorem tn {v:AV} {u:Value} {L:List Nat} (r:Rel G w I α H) (hfr:∀id,nx≤id→α id=none) (h:dX G w I α (bG H L) nx v H1 nx' u w'):
  Post G w I α H rid nx v (Mods.app (gL (eP H1 L) (ey nx H1 H1)) H) nx' u w':=by
 obtain ⟨⟨I',α',ev,r1,hv,hn⟩,hle⟩:=h
 have hH:∀i,nx≤i→hget H i=none:=fun i hi=>by
  cases hh:hget H i with
  |none=>rfl
  |some blk=>
   obtain ⟨b,h1,_⟩:=r.live i blk hh
   rw[hfr i hi] at h1;cases h1
 have get:=EM (h1:=H1) (L:=L) hH
 have hlow:∀ {id b:Nat},id<nx→α' id=some b→α id=some b:=fun {id b} hid h=>by
  rcases hn id (by rw[h];simp) with h1|h1
  ·cases h2:α id with
   |none=>exact absurd h2 h1
   |some c=>rw[ev.α_mono id c h2] at h;rw[←h]
  ·omega
 have ownH:∀ {b:Nat},bD α (bG H L) b→bD α H b:=fun h=>by
  obtain ⟨id,_,h1,h2⟩:=nt h
  exact ⟨id,h1,h2⟩
 have notcut:∀ {id b:Nat},id∉L→hget H id≠none→α id=some b→¬bD α (bG H L) b:=fun {id b} hL h1 h2 ho=>by
  obtain ⟨k,k1,k2,k3⟩:=nt ho
  exact hL (r.inj k id b k2 h1 k3 h2▸k1)
 have eo:Ev w I α H w' I' α' (Mods.app (gL (eP H1 L) (ey nx H1 H1)) H):=
  {os:=ev.os
   I_mono:=ev.I_mono
   α_mono:=ev.α_mono
   size:=ev.size
   frame:=fun b hb ho=>ev.frame b hb fun h=>ho (ownH h)
   shape:=ev.shape
   Inew:=fun b h=>(ev.Inew b h).imp (fun h=>h) (Or.imp (fun h=>h) ownH)
   own:=fun b ⟨id,h1,h2⟩=>by
    rw[get] at h1
    split at h1
    ·exact (ev.own b ⟨id,h1,h2⟩).imp (fun h=>h) ownH
    ·rename_i hc
     exact .inr ⟨id,h1,hlow (by omega) h2⟩}
 have cross:∀ {i j b:Nat},hget H1 i≠none→α' i=some b→j∉L→hget H j≠none→α j=some b→False:=fun {i j b} a1 a2 hj a3 a4=>by
  rcases ev.own b ⟨i,a1,a2⟩ with h|h
  ·have:=r.dom j b a4;omega
  ·exact notcut hj a3 a4 h
 refine ⟨⟨I',α',eo,⟨fun id blk h=> ?_,fun id id' b h1 h2 h3 h4=> ?_,r1.imm,r1.dom,f8 r eo⟩,hv,fun id h=>(hn id h).imp (fun h=>h) .inr⟩,hle⟩
 ·rw[get] at h
  split at h
  ·exact r1.live id blk h
  ·rename_i hc
   obtain ⟨b,h1,h2,h3⟩:=r.live id blk h
   have hnc:=notcut (fun h=>hc (.inl h)) (by rw[h];simp) h1
   have hb:=r.dom id b h1
   refine ⟨b,ev.α_mono id b h1,fun h4=> ?_,h3.ev r eo (ev.frame b hb hnc)⟩
   rcases ev.Inew b h4 with h5|h5|h5
   ·exact h2 h5
   ·omega
   ·exact hnc h5
 ·rw[get] at h1 h2
  split at h1<;>split at h2
  ·exact r1.inj id id' b h1 h2 h3 h4
  ·rename_i _ hc
   exact (cross h1 h3 (fun h=>hc (.inl h)) h2 (hlow (by omega) h4)).elim
  ·rename_i hc _
   exact (cross h2 h4 (fun h=>hc (.inl h)) h1 (hlow (by omega) h3)).elim
  ·rename_i hc hc'
   exact r.inj id id' b h1 h2 (hlow (by omega) h3) (hlow (by omega) h4)
theorem EN {O:aT} {call:aI} {d:Nat} {f:FuncId} {args:List AV} {h:ab} {nx:Nat} {v:AV} {h':ab} {nx':Nat} {ft:Foot} {g:ab→Nat→Option (AV × ab × Nat × Foot)} (hg:∀h nx,g h nx=j9 P O call d f args h nx)
  (hc:j9 P O call d f args h nx=some (v,h',nx',ft)):Loc g h nx v h' nx' ft:=by
 have hc0:=hc
 unfold j9 at hc
 split at hc
 ·rename_i v0 h1 m hrun
  split at hc
  ·cases hc
  ·rename_i hle
   have hle:=Nat.le_of_ble_eq_true hle
   simp only[Option.some.injEq,Prod.mk.injEq] at hc
   obtain ⟨rfl,rfl,rfl,rfl⟩:=hc
   refine ⟨fun h=>(by cases h),fun _ n l hw=> ?_⟩
   simp only[List.cons.injEq] at hw
   obtain ⟨rfl,rfl⟩:=hw
   refine ⟨rfl,hle,_,rfl,fun p hp=> ?_,fun h2 hk=> ?_⟩
   ·rw[nz] at hp
    rcases List.mem_append.1 hp with hp|hp
    ·exact .inl (pB hp).1
    ·exact .inr (lE hp).1
   ·have hL:bv h2 d (bg args [])=bv h d (bg args []):=nw d _ fun i hi=>hk i (by simp[hi])
    have hC:bG h2 (bv h d (bg args []))=bG h (bv h d (bg args [])):=lD _ fun i hi=>hk i (by simp[hi])
    rw[hg]
    unfold j9
    simp only[hL,hC,hrun]
    rw[show Nat.ble nx m=true from Nat.ble_eq_true_of_le hle]
 ·cases hc
theorem EO {O:aT} {call:aI} {d:Nat} {f:FuncId} {args:List AV} {id:Nat} {h:ab} {nx:Nat} {v:AV} {h':ab} {nx':Nat} {ft:Foot} {g:ab→Nat→Option (AV × ab × Nat × Foot)} (hg:∀h nx,g h nx=j7 P O call d f args id h nx)
  (hc:j7 P O call d f args id h nx=some (v,h',nx',ft)):Loc g h nx v h' nx' ft:=by
 unfold j7 at hc
 split at hc
 ·rename_i v0 h1 m hrun
  split at hc
  ·rename_i res he
   simp only[Option.some.injEq] at hc
   refine yz hc fun h2 hk=> ?_
   have hL:bv h2 d (bg args [])=bv h d (bg args []):=nw d _ hk
   have hC:bG h2 (bv h d (bg args []))=bG h (bv h d (bg args [])):=lD _ hk
   rw[hg]
   unfold j7
   simp only[hL,hC,hrun,yy hk,he]
  ·cases hc
 ·cases hc
theorem pC {k:AExit × St→Option (List (AExit × St))}:∀ {l u:List (AExit × St)},lw k l=some u→∀p∈l,∃t,k p=some t∧∀q∈t,q∈u
 |[],_,_,_,hp=>by cases hp
 | a ::t,u,h,p,hp=>by
  simp only[lw] at h
  split at h
  ·rename_i la hla
   split at h
   ·rename_i lt hlt
    simp only[Option.some.injEq] at h;subst h
    rcases List.mem_cons.1 hp with rfl|hp
    ·exact ⟨la,hla,fun q hq=>List.mem_append_left _ hq⟩
    ·obtain ⟨t',e1,e2⟩:=pC hlt p hp
     exact ⟨t',e1,fun q hq=>List.mem_append_right _ (e2 q hq)⟩
   ·cases h
  ·cases h
theorem yB {call:aI} {ops rest:List Oper} {dst:Option Tmp} {it:Nat} {s:St}:∀ {l:List (AV × Blk)} {u:List (AExit × St)},na P G call ops rest dst it s l=some u→∀v b,(v,b)∈l→
  ∃s' feet,cH P G call ops (s.nx-ac ops) rest 1 ⟨bM s.n s.slots dst v,aY s.heap it b,s.nx,s.n⟩ []=some (s',feet)∧(.normal,s')∈u
 |[],_,_,_,_,hp=>by cases hp
 | (v0,b0)::t,u,h,v,b,hp=>by
  simp only[na] at h
  split at h
  ·rename_i s' feet hr
   split at h
   ·rename_i l' hl'
    simp only[Option.some.injEq] at h;subst h
    rcases List.mem_cons.1 hp with e|hp
    ·cases e;exact ⟨s',feet,hr,by simp⟩
    ·obtain ⟨s2,f2,e1,e2⟩:=yB hl' v b hp
     exact ⟨s2,f2,e1,by simp[e2]⟩
   ·cases h
  ·cases h
variable {call:aI} {w0:World} {I0:Nat→Prop} {α0:Nat→Option Nat} {H0:ab} {nx0:Nat} {D:List Deferred}
theorem EP {id:Nat} {ops:Array Oper} {o:Oper} {rest:List Oper} {x:Operand} {it m since last:Nat} {seen:List Nat} {mp:Blk} {l:List (AV × Blk)} {u:List (AExit × St)} {s:St} {a:Act} {w:World} {Q:Exit→Act→World→Prop}
  (hcall:bo P G call) (hr:CR G w0 I0 α0 H0 nx0 D s a w) (hops:ops.toList=o::rest) (ho:o.op= .next x false) (hgu:o.guard=none) (hx:aS s.slots x=some (.ptr it 0)) (hit:hget s.heap it=some (.miter m since seen last)) (hmp:hget s.heap m=some mp)
  (hl:k7 (.miter m since seen last) mp=some l) (hne:l≠[]) (hu:na P G call (o::rest) rest o.dst it ⟨s.slots,s.heap,s.nx+ac (o::rest),s.n⟩ l=some u)
  (hq:∀s',(.normal,s')∈u→∀a' w',CR G w0 I0 α0 H0 nx0 D s' a' w'→Q .normal a' w'):(Code.region id ops false).wp P Q a w:=by
 have hlen:ac (o::rest)=ops.size:=by rw[←hops,aC];simp
 have hsz:ops.size=rest.length+1:=by rw[←hlen,aC];simp
 have ho0:ops[0]? =some o:=by
  have:ops.toList[0]? =some o:=by rw[hops];rfl
  simpa using this
 rw[hlen] at hu
 refine wp_region ?_
 rw[List.range_eq_range',hsz,List.range'_succ,wpOps_cons]
 have hr0:=hr.enter ops.size (fun j=>decide (j<0))
 obtain ⟨⟨I,α,ev,rel,hs,hres,hfr,hnew⟩,hle,hlo,hD,hszt,hsm⟩:=hr0
 simp only at hs hfr hle hszt hsm rel
 unfold wpOp
 simp only[ho0]
 have hw:cw ops.toList o s.slots=some true:=by simp only[cw,hgu]
 rw[s4 hs hw,if_pos rfl]
 have c:Ctx P G call w I α s.heap (s.nx+0) (s.nx+ops.size):=⟨rel,hres 0 (by omega) (by simp),by omega,hfr,hcall⟩
 obtain ⟨b,hb⟩:∃b,α it=some b:=by
  obtain ⟨b,h1,_⟩:=rel.live it _ hit
  exact ⟨b,h1⟩
 have hxe:a.eval x= .pointer (some ⟨b,0,none⟩):=by
  have:=be hs hx
  generalize a.eval x=y at this
  cases this with
  |ptr _ _ b' hb'=>rw[hb] at hb';cases hb';rfl
 rcases sX (ty:=o.type) c hb hit hmp hl with ⟨h0,_⟩|⟨v,bl,v',w',hm,hrun,hp⟩
 ·exact absurd h0 hne
 ·refine .inl (w8 (R:=fun y z=>y=v'∧z=w') ?_ ?_)
  ·unfold execOp
   simp only[ho,hxe,Sem.run_bind,hrun,Result.andThen_ok,Sem.run_pure]
   exact ⟨rfl,rfl⟩
  ·rintro v' w' ⟨rfl,rfl⟩
   obtain ⟨s',feet,k1,k2⟩:=yB hu v bl hm
   have hrr:RR G w0 I0 α0 H0 nx0 D s.nx ops.size (fun j=>j==0||decide (j<0)) ⟨bM s.n s.slots o.dst v,aY s.heap it bl,s.nx+ops.size,s.n⟩ (a.put o.dst v') w':=by
    obtain ⟨⟨I',α',ev',rel',hv,hn'⟩,hle'⟩:=hp
    refine ⟨⟨I',α',ev.trans ev',rel',sY (fun t u hu=> ?_) hv hszt hsm,fun j hj hLj=> ?_,fun id hid=> ?_,fun id hid=> ?_⟩,hle,hlo,by rw[s3];exact hD,by rw[sZ];exact hszt,hsm⟩
    ·obtain ⟨y,h1,h2⟩:=hs t u hu
     exact ⟨y,h1,h2.ev rel ev'⟩
    ·simp only[Bool.or_eq_false_iff] at hLj
     have hji:j≠0:=by simpa using hLj.1
     cases hh:α' (s.nx+j) with
     |none=>rfl
     |some b=>
      rcases hn' (s.nx+j) (by rw[hh];simp) with h1|h1|h1
      ·exact absurd (hres j hj hLj.2) h1
      ·omega
      ·omega
    ·cases hh:α' id with
     |none=>rfl
     |some b=>
      simp only at hid
      rcases hn' id (by rw[hh];simp) with h1|h1|h1
      ·exact absurd (hfr id (by omega)) h1
      ·omega
      ·omega
    ·simp only
     rcases hn' id hid with h1|h1|h1
     ·exact hnew id h1
     ·exact .inr ⟨by omega,by omega⟩
     ·exact .inr ⟨by omega,by omega⟩
   have hsub:s.nx+ops.size-ac (o::rest)=s.nx:=by rw[hlen];omega
   simp only[hsub] at k1
   rw[←hops] at k1
   have:=s5 (Q:=Q) (base:=s.nx) hcall rest 1 _ s' [] feet _ w' (by rw[hops];rfl) k1 (hrr.mono fun j _ hj=>by simp at hj⊢;omega) (fun a' w' h'=>hq s' k2 a' w' h'.out)
   simpa using this
theorem EQ {lf:Nat} (hm:P.follows .mixedOrders=true) (hcall:bo P G call) (hloc:bp call):∀ (c:Code) (s:St) (l:List (AExit × St)) (a:Act) (w:World) (Q:Exit→Act→World→Prop),
    ew P G call lf c s=some l→CR G w0 I0 α0 H0 nx0 D s a w→(∀e s',(e,s')∈l→∀a' w',CR G w0 I0 α0 H0 nx0 D s' a' w'→Q (co e) a' w')→c.wp P Q a w:=by
  have det:∀ (c:Code) (s:St) (l:List (AExit × St)) (a:Act) (w:World) (Q:Exit→Act→World→Prop),((bW P G call lf c s).map fun r=>[r])=some l→CR G w0 I0 α0 H0 nx0 D s a w→
      (∀e s',(e,s')∈l→∀a' w',CR G w0 I0 α0 H0 nx0 D s' a' w'→Q (co e) a' w')→c.wp P Q a w:=fun c s l a w Q h hr hq=>by
    simp only[Option.map_eq_some_iff] at h
    obtain ⟨⟨e,s'⟩,h1,rfl⟩:=h
    exact tb hm hcall hloc c s s' e a w Q h1 hr (hq e s' (by simp))
  intro c
  induction c with
  | seq x y ihx ihy=>
    intro s l a w Q h hr hq
    simp only[ew] at h
    split at h
    · rename_i la hla
      refine wp_seq (ihx s la a w _ hla hr fun e s' hm' a' w' hr'=> ?_)
      obtain ⟨t,k1,k2⟩:=pC h _ hm'
      cases e with
      |normal=>exact ihy s' t a' w' Q k1 hr' fun e2 s2 h2=>hq e2 s2 (k2 _ h2)
      | exit id=>
        simp only[Option.some.injEq] at k1;subst k1
        exact hq _ s' (k2 _ (by simp)) a' w' hr'
      | ret=>
        simp only[Option.some.injEq] at k1;subst k1
        exact hq _ s' (k2 _ (by simp)) a' w' hr'
    · cases h
  | cond cnd x y ihx ihy=>
    intro s l a w Q h hr hq
    simp only[ew] at h
    have hs:=hr.ex
    obtain ⟨I,α,_,_,hs,_⟩:=hs
    split at h
    · rename_i hc
      exact wp_cond_true (be hs hc).bool_val (ihx s l a w Q h hr hq)
    · rename_i hc
      exact wp_cond_false (be hs hc).bool_val (ihy s l a w Q h hr hq)
    · simp at h
  | block id body ih=>
    intro s l a w Q h hr hq
    simp only[ew] at h
    refine wp_block ?_
    split at h
    · rename_i la hla
      refine ih s la a w _ hla hr fun e s' hm' a' w' hr'=> ?_
      obtain ⟨t,k1,k2⟩:=pC h _ hm'
      cases e with
      | normal=>
        simp only[Option.some.injEq] at k1;subst k1
        exact hq _ s' (k2 _ (by simp)) a' w' hr'
      | exit i=>
        simp only at k1
        split at k1
        · rename_i hi
          simp only[Option.some.injEq] at k1;subst k1
          simp only[co,Exit.inBlock]
          rw[if_pos (beq_iff.1 hi)]
          exact hq .normal s' (k2 _ (by simp)) a' w' hr'
        · rename_i hi
          simp only[Option.some.injEq] at k1;subst k1
          simp only[co,Exit.inBlock]
          rw[if_neg (beq_false_iff.1 hi)]
          exact hq (.exit i) s' (k2 _ (by simp)) a' w' hr'
      | ret=>
        simp only[Option.some.injEq] at k1;subst k1
        exact hq _ s' (k2 _ (by simp)) a' w' hr'
    · cases h
  | loop body ih=>
    intro s l a w Q h hr hq
    simp only[ew] at h
    refine wp_loop_rounds lf ?_
    exact go ih lf s l a w h hr hq
  | region id ops draw=>
    intro s l a w Q h hr hq
    simp only[ew] at h
    split at h
    · rename_i o rest hops
      split at h
      · rename_i x hop hgu
        split at h
        · rename_i it hx
          split at h
          · rename_i m since seen last hit
            split at h
            · rename_i mp hmp
              split at h
              · rename_i p q t hl
                exact EP hcall hr hops hop hgu hx hit hmp hl (by simp) h fun s' hm'=>hq .normal s' hm'
              · exact det _ s l a w Q h hr hq
            · cases h
          · cases h
        · cases h
      · exact det _ s l a w Q h hr hq
    · exact det _ s l a w Q h hr hq
  | _=>
    intro s l a w Q h hr hq
    exact det _ s l a w Q (by simpa only[ew] using h) hr hq
 where
  go {body:Code} {f:St→Option (List (AExit × St))} {Q:Exit→Act→World→Prop} (ih:∀ (s:St) (l:List (AExit × St)) (a:Act) (w:World) (Q:Exit→Act→World→Prop),f s=some l→CR G w0 I0 α0 H0 nx0 D s a w→
      (∀e s',(e,s')∈l→∀a' w',CR G w0 I0 α0 H0 nx0 D s' a' w'→Q (co e) a' w')→body.wp P Q a w):∀ (n:Nat) (s:St) (l:List (AExit × St)) (a:Act) (w:World),m9 f n s=some l→CR G w0 I0 α0 H0 nx0 D s a w→
      (∀e s',(e,s')∈l→∀a' w',CR G w0 I0 α0 H0 nx0 D s' a' w'→Q (co e) a' w')→Code.rounds P body Q n a w
    |0,s,l,a,w,h,_,_=>by simp[m9] at h
    | n + 1,s,l,a,w,h,hr,hq=>by
      simp only[m9] at h
      rw[rounds_succ]
      split at h
      · rename_i la hla
        refine ih s la a w _ hla hr fun e s' hm' a' w' hr'=> ?_
        obtain ⟨t,k1,k2⟩:=pC h _ hm'
        cases e with
        |normal=>exact go ih n s' t a' w' k1 hr' fun e2 s2 h2=>hq e2 s2 (k2 _ h2)
        | exit id=>
          simp only[Option.some.injEq] at k1;subst k1
          exact hq _ s' (k2 _ (by simp)) a' w' hr'
        | ret=>
          simp only[Option.some.injEq] at k1;subst k1
          exact hq _ s' (k2 _ (by simp)) a' w' hr'
      · cases h
theorem yC {rs:List ResultVar} {L:List Nat} {id nx:Nat} {h:ab}:∀ {l:List (AExit × St)} {res:AV × Option (List AV) × Mods},i9 P G rs L id nx h l=some res→∀e s,(e,s)∈l→
  (e= .normal∨e= .ret)∧∃vs,db P G s rs=some vs∧lookEnd L id nx h (cW vs) s.heap=some res
 |[],_,h,_,_,_=>by cases h
 | (e0,s0)::t,res,hh,e,s,hm=>by
  simp only[i9] at hh
  split at hh
  ·rename_i v row he
   have head:(e0= .normal∨e0= .ret)∧∃vs,db P G s0 rs=some vs∧lookEnd L id nx h (cW vs) s0.heap=some (v,row,[]):=by
    cases e0 with
    |exit i=>simp at he
    |normal=>
     simp only at he
     split at he
     ·rename_i l hl;exact ⟨.inl rfl,l,hl,he⟩
     ·cases he
    |ret=>
     simp only at he
     split at he
     ·rename_i l hl;exact ⟨.inr rfl,l,hl,he⟩
     ·cases he
   split at hh
   ·simp only[Option.some.injEq] at hh;subst hh
    simp only[List.mem_singleton,Prod.mk.injEq] at hm
    obtain ⟨rfl,rfl⟩:=hm
    exact head
   ·rename_i p t'
    split at hh
    ·rename_i v' row' hrec
     split at hh
     ·rename_i hsame
      simp only[Option.some.injEq] at hh;subst hh
      rw[Bool.and_eq_true] at hsame
      have e1:=lB _ _ hsame.1
      have e2:row=row':=by
       have:=hsame.2
       split at this
       ·rfl
       ·rw[gQ _ _ this]
       ·cases this
      rcases List.mem_cons.1 hm with hm|hm
      ·cases hm;exact head
      ·have:=yC hrec e s hm
       rw[←e1,←e2] at this
       exact this
     ·cases hh
    ·cases hh
  ·cases hh
theorem ER {O:aT} {f:FuncId} {fn:Func} {c:Code} {args:List AV} {vs:Array Value} {l:List (AExit × St)} {L:List Nat} {id:Nat} {h:ab} {res:AV × Option (List AV) × Mods} (hm:P.follows .mixedOrders=true) (hcall:bo P O.glob call) (hloc:bp call)
  (hfn:P.funcs[f]? =some fn) (hc:fn.body=some c) (hname:(fn.name== "runtime.NumGoroutine")=false) (hsz:(Nat.ble (ac args) fn.ntmps&&Nat.ble fn.ntmps 4095)=true)
  (hex:ew P O.glob call O.lf c ⟨cX args 0 .tip,H,nx,fn.ntmps⟩=some l) (hone:i9 P O.glob fn.results.toList L id nx h l=some res) (r:Rel O.glob w I α H) (ha:RepL w I α args vs.toList) (hf:∀id,nx≤id→α id=none):
  (callFunc f vs).run P w= .ok (.enter f vs) w∧Calls P f vs w fun e w'=>∃u,e= .returned u∧∃v H' nx',dX O.glob w I α H nx v H' nx' u w'∧lookEnd L id nx h v H'=some res:=by
 rw[Bool.and_eq_true,Nat.ble_eq,Nat.ble_eq,aC] at hsz
 refine ⟨?_, ?_⟩
 ·unfold callFunc
  simp only[Sem.run_bind,run_program,Result.andThen_ok,hfn,hname,hc,Bool.false_eq_true,if_false,Option.isNone_some,Sem.run_pure]
 ·refine calls_of_wp hfn hc ?_
  have hvs:args.length=vs.size:=by rw[ha.1];simp
  have hr0:CR O.glob w I α H nx [] ⟨cX args 0 .tip,H,nx,fn.ntmps⟩ {tmps:=vs++Array.replicate (fn.ntmps-vs.size) undef,defers:=[]} w:=
   ⟨⟨I,α,.refl,r,jf ha (by omega),fun i hi=>absurd hi (Nat.not_lt_zero i),hf,fun id h=> .inl h⟩,Nat.le_refl _,Nat.le_refl _,rfl,by simp;omega,hsz.2⟩
  refine EQ hm hcall hloc c _ l _ w _ hex hr0 fun e s hmem a' w' hr=> ?_
  obtain ⟨he,vs',h1,h2⟩:=yC hone e s hmem
  obtain ⟨⟨I',α',k1,k2,k3,_,_,k6⟩,_,k8,k9,_,_⟩:=hr
  obtain ⟨u,e1,e2⟩:=jg (P:=P) (fn:=fn) k2 k3 h1
  rcases he with rfl|rfl<;>exact ⟨k9,u,e1,u,rfl,_,_,_,⟨⟨I',α',k1,k2,e2,k6⟩,k8⟩,h2⟩
theorem ET {O:aT} {d:Nat} {f:FuncId} {args:List AV} {id:Nat} {h:ab} {nx:Nat} {v:AV} {h':ab} {nx':Nat} {ft:Foot} {g:ab→Nat→Option (AV × ab × Nat × Foot)} (hg:∀h nx,g h nx=j8 P O call d f args id h nx)
  (hc:j8 P O call d f args id h nx=some (v,h',nx',ft)):Loc g h nx v h' nx' ft:=by
 unfold j8 at hc
 split at hc
 ·rename_i fn hfn
  split at hc
  ·rename_i c hbody
   split at hc
   ·cases hc
   ·rename_i hname
    split at hc
    ·cases hc
    ·rename_i hsz
     split at hc
     ·rename_i l hex
      split at hc
      ·rename_i res hone
       simp only[Option.some.injEq] at hc
       refine yz hc fun h2 hk=> ?_
       have hL:bv h2 d (bg args [])=bv h d (bg args []):=nw d _ hk
       have hC:bG h2 (bv h d (bg args []))=bG h (bv h d (bg args [])):=lD _ hk
       have hE:∀l,i9 P O.glob fn.results.toList (bv h d (bg args [])) id nx h2 l=i9 P O.glob fn.results.toList (bv h d (bg args [])) id nx h l:=fun l=>by
        induction l with
        |nil=>rfl
        |cons p t ih=>
         obtain ⟨e,s⟩:=p
         simp only[i9,yy hk,ih]
       rw[hg]
       unfold j8
       simp only[hfn,hbody,hname,hsz,hL,hC,hex,hE,hone]
      ·cases hc
     ·cases hc
  ·cases hc
 ·cases hc
theorem EU {f:FuncId} {args:List AV} {vs:Array Value} {id:Nat} {v:AV} {h':ab} {nx2:Nat} {ft:Foot} (c:Ctx P G call w I α H id nx) (ha:RepL w I α args vs.toList) (hc:ja P f args id H nx=some (v,h',nx2,ft)):
  dK P (Post G w I α H id nx v h' nx2) ((callFunc f vs).run P w):=by
 unfold ja at hc
 split at hc
 ·rename_i fn hfn
  split at hc
  ·rename_i hb
   simp only[Bool.and_eq_true,beq_iff_eq] at hb
   obtain ⟨hb1,hb2,hb3⟩:=hb
   split at hc
   ·rename_i t m
    split at hc
    ·rename_i cl st es hm
     simp only[Option.some.injEq,Prod.mk.injEq] at hc
     obtain ⟨rfl,rfl,rfl,rfl⟩:=hc
     obtain ⟨y,r',e1,h1,h2⟩:=ha.cons_inv
     have e3:vs= #[y]:=by apply Array.ext';rw[e1,h2.nil_inv]
     subst e3
     cases h1 with
     | iface _ _ z hz=>
      cases hz with
      | map _ b hb'=>
       obtain ⟨b',k1,_,en,q1,q2,q4,q3⟩:=c.rel.live m _ hm
       rw[hb'] at k1;cases k1
       have hn:Extern.findNext fn=none:=by
        unfold Extern.findNext
        rw[hb2,hb3]
        kernel_rfl
       have hx:Extern.find fn=some Extern.MapsClone.clone:=by
        unfold Extern.find
        rw[hb2,hb3]
        kernel_rfl
       rw[run_callFunc_extern hfn (by rw[hb2];decide) hb1 hn hx]
       have hget:(getObj b).run P w= .ok (.map en cl) w:=by simp[getObj,Sem.run,q1]
       have hrun:(Extern.MapsClone.clone #[.iface t (.map (some b))]).run P w= .ok (.iface t (.map (some w.heap.size))) {w with heap:=w.heap.push (.map en cl)}:=by
        have e:Extern.MapsClone.clone #[.iface t (.map (some b))]=(getObj b>>=fun o=>match o with
          | .map entries clock=>(newObj (.map entries clock)>>=fun n=>pure (.iface t (.map (some n))))
          |_=>stuck "maps.clone: a map expected"):=rfl
        rw[e]
        simp[hget,newObj,Sem.run]
       rw[hrun]
       refine sx (w':={w with heap:=w.heap.push (.map en cl)}) (o:= .map en cl) (blk:= .mapb cl st es) c rfl (fun α' hα rel=> ?_) (fun α' hα=> .iface _ _ _ (.map _ _ hα))
       have evp:Ev w I α H {w with heap:=w.heap.push (.map en cl)} I α H:=gN (o:= .map en cl) rfl I (fun _ h=>h) (fun _ h=> .inl h)
       refine ⟨en,by simp,q2,q4,fun i x y g1 g2=> ?_⟩
       have:=q3 i x y g1 g2
       exact ⟨(this.1.ev c.rel evp).mono (fun _ h=>h) hα (fun _ _ _=>rfl) (fun _ _ _=>rfl),(this.2.ev c.rel evp).mono (fun _ h=>h) hα (fun _ _ _=>rfl) (fun _ _ _=>rfl)⟩
    ·cases hc
   ·cases hc
  ·cases hc
 ·cases hc
theorem EV {f:FuncId} {args:List AV} {id:Nat} {h:ab} {nx:Nat} {v:AV} {h':ab} {nx':Nat} {ft:Foot} {g:ab→Nat→Option (AV × ab × Nat × Foot)} (hg:∀h nx,g h nx=ja P f args id h nx)
  (hc:ja P f args id h nx=some (v,h',nx',ft)):Loc g h nx v h' nx' ft:=by
 unfold ja at hc
 split at hc
 ·rename_i fn hfn
  split at hc
  ·rename_i hb
   split at hc
   ·rename_i t m
    split at hc
    ·rename_i cl st es hm
     simp only[Option.some.injEq,Prod.mk.injEq] at hc
     obtain ⟨rfl,rfl,rfl,rfl⟩:=hc
     refine .one rfl ⟨rfl,[(id,some (.mapb cl st es))],rfl,by simp,fun h2 nx2 hk=> ?_⟩
     rw[hg]
     unfold ja
     simp only[hfn,hb]
     rw[hk m (by simp),hm]
     rfl
    ·cases hc
   ·cases hc
  ·cases hc
 ·cases hc
theorem yD:∀ (a b:List UInt8),Lib.compareBytes a b=match eM a b with
  |true=> -1
  |false=>match eM b a with
   |true=>1
   |false=>0
 |[],[]=>rfl
 |[],_::_=>rfl
 |_::_,[]=>rfl
 | a::x,b::y=>by
  simp only[Lib.compareBytes,eM]
  rcases Nat.lt_trichotomy a.toNat b.toNat with h|h|h
  ·have h1:a<b:=h
   simp[blt_iff.2 h,h1]
  ·have h1:a=b:=UInt8.toNat.inj h
   subst h1
   have h2:Nat.blt a.toNat a.toNat=false:=pa (by omega)
   have h3:Nat.beq a.toNat a.toNat=true:=beq_iff.2 rfl
   simp[h2,yD x y]
  ·have h1:¬a<b:=fun h'=>by have:a.toNat<b.toNat:=h';omega
   have h2:b<a:=h
   have h3:Nat.blt a.toNat b.toNat=false:=pa (by omega)
   have h4:Nat.beq a.toNat b.toNat=false:=beq_false_iff.2 (by omega)
   simp[h1,h2,h3,h4,blt_iff.2 h]
theorem EW {f:FuncId} {args:List AV} {vs:Array Value} {id:Nat} {v:AV} {h':ab} {nx2:Nat} {ft:Foot} (c:Ctx P G call w I α H id nx) (ha:RepL w I α args vs.toList) (hc:jb P f args H nx=some (v,h',nx2,ft)):
  dK P (Post G w I α H id nx v h' nx2) ((callFunc f vs).run P w):=by
 unfold jb at hc
 split at hc
 ·rename_i fn hfn
  split at hc
  ·rename_i hb
   simp only[Bool.and_eq_true,beq_iff_eq] at hb
   obtain ⟨hb1,hb2,hb3⟩:=hb
   split at hc
   ·rename_i x y
    simp only[Option.some.injEq,Prod.mk.injEq] at hc
    obtain ⟨rfl,rfl,rfl,rfl⟩:=hc
    obtain ⟨p,r',e1,h1,h2⟩:=ha.cons_inv
    obtain ⟨q,r'',e2,h3,h4⟩:=h2.cons_inv
    have e3:vs= #[p,q]:=by apply Array.ext';rw[e1,e2,h4.nil_inv]
    subst e3
    cases h1 with
    | str _ ba hba=>
     cases h3 with
     | str _ bb hbb=>
      have hn:Extern.findNext fn=none:=by
       unfold Extern.findNext
       rw[hb2,hb3]
       kernel_rfl
      have hx:Extern.find fn=some Extern.BytealgCompare.compare:=by
       unfold Extern.find
       rw[hb2,hb3]
       kernel_rfl
      rw[run_callFunc_extern hfn (by rw[hb2];decide) hb1 hn hx,Lib.run_compareString,hba,hbb,yD]
      exact w9 c.rel (.int _ _)
   ·cases hc
  ·cases hc
 ·cases hc
theorem EX {f:FuncId} {args:List AV} {h:ab} {nx:Nat} {v:AV} {h':ab} {nx':Nat} {ft:Foot} {g:ab→Nat→Option (AV × ab × Nat × Foot)} (hg:∀h nx,g h nx=jb P f args h nx)
  (hc:jb P f args h nx=some (v,h',nx',ft)):Loc g h nx v h' nx' ft:=by
 unfold jb at hc
 split at hc
 ·rename_i fn hfn
  split at hc
  ·rename_i hb
   split at hc
   ·simp only[Option.some.injEq,Prod.mk.injEq] at hc
    obtain ⟨rfl,rfl,rfl,rfl⟩:=hc
    refine .one rfl ⟨rfl,[],rfl,by simp,fun h2 nx2 hk=> ?_⟩
    rw[hg]
    unfold jb
    simp only[hfn,hb]
    rfl
   ·cases hc
  ·cases hc
 ·cases hc
structure SemCall (P:Program) (G:aF) (f:FuncId) (args:List AV) (r:AV):Prop where
 out:∀w I α H rid nx (vs:Array Value),Rel G w I α H→RepL w I α args vs.toList→α rid=none→rid<nx→(∀id,nx≤id→α id=none)→dK P (Post G w I α H rid nx r H nx) ((callFunc f vs).run P w)
theorem yE:bo P G (fun _ _ _ _ _=>none)∧bp (fun _ _ _ _ _=>none):=by
 refine ⟨?_, ?_⟩
 ·intro f args rid H nx v H' nx' ft h;cases h
 ·intro f args id h nx v h' nx' ft hc;cases hc
theorem lF {O:aT} (hm:P.follows .mixedOrders=true) (hsum:∀f args v,O.summ f args=some v→SemCall P O.glob f args v) (hg:∀g l,O.glob g=some l→ae l=true) (hcx:bo P O.glob O.cx∧bp O.cx):∀n,bo P O.glob (a8 P O n)∧bp (a8 P O n)
 |0=>⟨fun f args rid H nx v H' nx' ft h=>by simp[a8] at h,fun f args id h nx v h' nx' ft hc=>by simp[a8] at hc⟩
 | n + 1 =>by
  obtain ⟨ih1,ih2⟩:=lF hm hsum hg hcx n
  constructor
  ·intro f args rid H nx v H' nx' ft h w I α vs r ha hrid hlt hfr
   have own:∀ {v0 H1 m},ae args=true→ep P O (a8 P O n) f args [] 0=some (v0,H1,m)→_:=fun {v0 H1 m} hc hrun=>
    ki (w:=w) (I:=I) (α:=fun _=>none) hm ih1 ih2 hrun (ji hg r) (gP ha hc) (fun _ _=>rfl)
   have shared:∀ {v0 H1 m},ep P O (a8 P O n) f args H nx=some (v0,H1,m)→_:=fun {v0 H1 m} hrun=>
    ki (w:=w) (I:=I) (α:=α) hm ih1 ih2 hrun r ha hfr
   have cx:Ctx P O.glob (a8 P O n) w I α H rid nx:=⟨r,hrid,hlt,hfr,ih1⟩
   simp only[a8] at h
   split at h
   ·unfold j7 at h
    split at h
    ·rename_i v0 H1 m hrun
     split at h
     ·rename_i res he
      simp only[Option.some.injEq] at h
      obtain ⟨e1,e2⟩:=ki (w:=w) (I:=I) (α:=α) hm ih1 ih2 hrun (lC r _) ha hfr
      rw[e1]
      refine Calls.mono e2 ?_
      rintro e w' ⟨u,rfl,hp⟩
      have:=yn r hrid hp he
      have hnx:nx=nx':=congrArg (fun q:AV × ab × Nat × Foot=>q.2.2.1) h
      rw[h] at this
      subst hnx
      exact ⟨u,rfl,this⟩
     ·simp at h
    ·simp at h
   ·unfold j8 at h
    split at h
    ·rename_i fn hfn
     split at h
     ·rename_i c hbody
      split at h
      ·simp at h
      ·rename_i hname
       split at h
       ·simp at h
       ·rename_i hsz
        split at h
        ·rename_i l hex
         split at h
         ·rename_i res hone
          simp only[Option.some.injEq] at h
          obtain ⟨e1,e2⟩:=ER hm ih1 ih2 hfn hbody hname hsz hex hone (lC r _) ha hfr
          rw[e1]
          refine Calls.mono e2 ?_
          rintro e w' ⟨u,rfl,v0,H1,m0,hp,he⟩
          have:=yn r hrid hp he
          have hnx:nx=nx':=congrArg (fun q:AV × ab × Nat × Foot=>q.2.2.1) h
          rw[h] at this
          subst hnx
          exact ⟨u,rfl,this⟩
         ·simp at h
        ·simp at h
     ·simp at h
    ·simp at h
   ·exact EU cx ha h
   ·unfold j9 at h
    split at h
    ·rename_i v0 H1 m hrun
     split at h
     ·simp at h
     ·simp only[Option.some.injEq,Prod.mk.injEq] at h
      obtain ⟨rfl,rfl,rfl,rfl⟩:=h
      obtain ⟨e1,e2⟩:=ki (w:=w) (I:=I) (α:=α) hm ih1 ih2 hrun (lC r _) ha hfr
      rw[e1]
      refine Calls.mono e2 ?_
      rintro e w' ⟨u,rfl,hp⟩
      exact ⟨u,rfl,tn r hfr hp⟩
    ·simp at h
   ·exact EW cx ha h
   ·exact hcx.1 f args rid H nx v H' nx' ft h w I α vs r ha hrid hlt hfr
   ·rename_i hhow hcl
    split at h
    ·rename_i vs0 hsm
     simp only[Option.some.injEq,Prod.mk.injEq] at h
     obtain ⟨rfl,rfl,rfl,rfl⟩:=h
     exact (hsum f args vs0 hsm).out w I α H rid nx vs r ha hrid hlt hfr
    split at h
    ·rename_i v0 H1 m hrun
     split at h
     ·rename_i v1 hfz
      split at h
      ·rename_i hc
       simp only[Option.some.injEq,Prod.mk.injEq] at h
       obtain ⟨rfl,rfl,rfl,rfl⟩:=h
       obtain ⟨e1,e2⟩:=own hcl hrun
       rw[e1]
       refine Calls.mono e2 ?_
       rintro e w' ⟨u,rfl,hp⟩
       exact ⟨u,rfl,kj r hp hfz hc⟩
      ·simp at h
     ·simp at h
    ·simp at h
   ·rename_i hhow hcl
    split at h
    ·rename_i v0 H1 m hrun
     obtain ⟨e1,e2⟩:=own hcl hrun
     rw[e1]
     refine Calls.mono e2 ?_
     rintro e w' ⟨u,rfl,hp⟩
     exact ⟨u,rfl,yu r hrid hp h⟩
    ·simp at h
   ·split at h
    ·rename_i v0 H1 m hrun
     split at h
     ·rename_i v1 hfz
      simp only[Option.some.injEq,Prod.mk.injEq] at h
      obtain ⟨rfl,rfl,rfl,rfl⟩:=h
      obtain ⟨e1,e2⟩:=shared hrun
      rw[e1]
      refine Calls.mono e2 ?_
      rintro e w' ⟨u,rfl,hp⟩
      exact ⟨u,rfl,yt hp hfz⟩
     ·simp at h
    ·simp at h
   ·split at h
    ·rename_i v0 H1 m hrun
     simp only[Option.some.injEq,Prod.mk.injEq] at h
     obtain ⟨rfl,rfl,rfl,rfl⟩:=h
     obtain ⟨e1,e2⟩:=shared hrun
     rw[e1]
     refine Calls.mono e2 ?_
     rintro e w' ⟨u,rfl,hp⟩
     exact ⟨u,rfl,tg hp⟩
    ·simp at h
  ·intro f args id h nx v h' nx' ft hc
   have hc0:=hc
   simp only[a8] at hc
   split at hc
   ·rename_i hhow
    exact EO (fun h nx=>by simp only[a8,hhow]) hc
   ·rename_i hhow
    exact ET (fun h nx=>by simp only[a8,hhow]) hc
   ·rename_i hhow
    exact EV (fun h nx=>by simp only[a8,hhow]) hc
   ·rename_i hhow
    exact EN (fun h nx=>by simp only[a8,hhow]) hc
   ·rename_i hhow
    exact EX (fun h nx=>by simp only[a8,hhow]) hc
   ·rename_i hhow
    have e:a8 P O (n+1) f args id=O.cx f args id:=by
     funext h nx
     simp only[a8,hhow]
    rw[e]
    exact hcx.2 f args id h nx v h' nx' ft hc
   ·rename_i hhow hcl
    split at hc
    ·rename_i vs0 hsm
     simp only[Option.some.injEq,Prod.mk.injEq] at hc
     obtain ⟨rfl,rfl,rfl,rfl⟩:=hc
     exact .one rfl ⟨rfl,[],rfl,by simp,fun h2 nx2 _=>by simp only[a8,hhow,hcl,hsm];rfl⟩
    rename_i hsm
    split at hc
    ·rename_i v0 H1 m hrun
     split at hc
     ·rename_i v1 hfz
      split at hc
      ·rename_i hcc
       simp only[Option.some.injEq,Prod.mk.injEq] at hc
       obtain ⟨rfl,rfl,rfl,rfl⟩:=hc
       exact .one rfl ⟨rfl,[],rfl,by simp,fun h2 nx2 _=>by simp only[a8,hhow,hcl,hsm,hrun,hfz,hcc];rfl⟩
      ·simp at hc
     ·simp at hc
    ·simp at hc
   ·rename_i hhow hcl
    split at hc
    ·rename_i v0 H1 m hrun
     obtain ⟨l1,l2⟩:=yv hc
     exact ⟨fun hall=>by
      obtain ⟨e1,md,e2,e3,e4⟩:=l1 hall
      exact ⟨e1,md,e2,e3,fun h2 nx2 hk hx=>by simp only[a8,hhow,hcl,hrun];exact e4 h2 nx2 hk hx⟩,fun hall k l hw=>by
      obtain ⟨e1,e0,md,e2,e3,e4⟩:=l2 hall k l hw
      exact ⟨e1,e0,md,e2,e3,fun h2 hk=>by simp only[a8,hhow,hcl,hrun];exact e4 h2 hk⟩⟩
    ·simp at hc
   ·split at hc
    ·split at hc
     ·simp only[Option.some.injEq,Prod.mk.injEq] at hc
      obtain ⟨_,_,_,rfl⟩:=hc
      exact .any rfl rfl
     ·simp at hc
    ·simp at hc
   ·split at hc
    ·simp only[Option.some.injEq,Prod.mk.injEq] at hc
     obtain ⟨_,_,_,rfl⟩:=hc
     exact .any rfl rfl
    ·simp at hc
end
end Go.Proofs.Abs
