import Derived.Test.YtlljinebapfdaaaGreatDoorG1
import Derived.Laws.BytesString
import Derived.Maps.RangeRun
namespace Go.Proofs.Abs
open Go
section
variable {P:Program} {G:aF} {call:aI} {w:World} {I:Nat→Prop} {α:Nat→Option Nat} {H:ab} {rid nx:Nat}
theorem Ctx.del (c:Ctx P G call w I α H rid nx) (id:Nat):Ctx P G call w I α (aZ H id) rid nx:=⟨pg c.rel id,c.hrid,c.lt,c.fresh,c.call⟩
theorem Post.of_del {id:Nat} {v:AV} {H':ab} {nx':Nat} {v':Value} {w':World} (h:Post G w I α (aZ H id) rid nx v H' nx' v' w'):Post G w I α H rid nx v H' nx' v' w':=by
 obtain ⟨⟨I',α',h1,h2,h3,h4⟩,h5⟩:=h
 exact ⟨⟨I',α',(Du id).trans h1,h2,h3,h4⟩,h5⟩
theorem DN {w':World} {id b:Nat} {blk blk':Blk} {v:AV} {v':Value} (c:Ctx P G call w I α H rid nx) (hg:hget H id=some blk) (hα:α id=some b)
  (hs:w'.heap.size=w.heap.size) (ho:∀k,k≠b→w'.heap[k]? =w.heap[k]?) (hsh:w'.shape? b=w.shape? b)
  (hB:Rel G w' I α (aZ H id)→Ev w I α H w' I α (aZ H id)→BRel w' I α b blk') (hv:∀α',α' rid=some b→Rep w' I α' v v') (hos:SameOs w w':=by first|assumption|exact ⟨rfl,rfl,rfl,Nat.le_refl _⟩|exact ⟨rfl,rfl,rfl,Nat.le_succ _⟩):
  Post G w I α H rid nx v (aY (aZ H id) rid blk') nx v' w':=by
 obtain ⟨_,_,reld,evd⟩:=xe c hg hα hs ho hsh hB
 have hB':=hB reld evd
 have hm:∀i k,α i=some k→upd α rid b i=some k:=fun i k h=>by
  rw[bQ];exact h
  intro e;subst e;rw[c.hrid] at h;cases h
 have hrid:hget H rid=none:=by
  cases hh:hget H rid with
  |none=>rfl
  |some blk=>obtain ⟨k,h1,_⟩:=c.rel.live rid blk hh;rw[c.hrid] at h1;cases h1
 have hne:rid≠id:=fun e=>by subst e;rw[hrid] at hg;cases hg
 have hbd:b<w.heap.size:=c.rel.dom id b hα
 have hnI:¬I b:=by
  obtain ⟨b',h1,h2,_⟩:=c.rel.live id blk hg
  rw[hα] at h1;cases h1;exact h2
 have ridd:hget (aZ H id) rid=none:=by rw[ez _ hne];exact hrid
 have ev:Ev w I α H w' I (upd α rid b) (aY (aZ H id) rid blk'):=
  ⟨evd.os,evd.I_mono,fun i k h=>hm i k h,evd.size,evd.frame,evd.shape,evd.Inew,fun k hk=>by
   obtain ⟨i,h1,h2⟩:=hk
   by_cases e:i=rid
   ·subst e;rw[cM] at h2;cases h2;exact .inr ⟨id,by rw[hg];simp,hα⟩
   ·rw[cR _ _ e] at h1;rw[bQ _ _ e] at h2;exact evd.own k ⟨i,h1,h2⟩⟩
 have mono:∀ {a:AV} {u:Value},Rep w' I α a u→Rep w' I (upd α rid b) a u:=fun h=>h.mono (fun _ h=>h) hm (fun _ _ _=>rfl) (fun _ _ _=>rfl)
 have monoB:∀ {k:Nat} {bk:Blk},BRel w' I α k bk→BRel w' I (upd α rid b) k bk:=fun {k bk} h=>by
  cases bk with
  |cells l=>obtain ⟨cc,e,h1,h2,h3⟩:=h;exact ⟨cc,e,h1,h2,h3.1,fun i x y e1 e2=>mono (h3.2 i x y e1 e2)⟩
  |siter s p=>exact h
  |mapb cl st es=>obtain ⟨en,h1,h2,h4,h3⟩:=h;exact ⟨en,h1,h2,h4,fun i x y e1 e2=>⟨mono (h3 i x y e1 e2).1,mono (h3 i x y e1 e2).2⟩⟩
  |miter m since seen last=>obtain ⟨mb,h1,h2⟩:=h;exact ⟨mb,hm _ _ h1,h2⟩
 have other:∀i k,hget (aZ H id) i≠none→α i=some k→k≠b:=fun i k h1 h2 e=>by
  have hi:i≠id:=fun e'=>by subst e';rw[fb] at h1;exact h1 rfl
  rw[ez _ hi] at h1
  exact hi (c.rel.inj i id b h1 (by rw[hg];simp) (e▸h2) hα)
 have rel:Rel G w' I (upd α rid b) (aY (aZ H id) rid blk'):=
  {live:=fun i bk hi=>by
    by_cases e:i=rid
    ·subst e;rw[nf] at hi;cases hi;exact ⟨b,cM _ _ _,hnI,monoB hB'⟩
    ·rw[cR _ _ e] at hi
     obtain ⟨k,h1,h2,h3⟩:=reld.live i bk hi
     exact ⟨k,hm _ _ h1,h2,monoB h3⟩
   inj:=fun i j k h1 h2 h3 h4=>by
    by_cases e:i=rid
    ·subst e;rw[cM] at h3;cases h3
     by_cases e':j=i
     ·exact e'.symm
     ·rw[cR _ _ e'] at h2;rw[bQ _ _ e'] at h4
      exact absurd rfl (other j _ h2 h4)
    ·by_cases e':j=rid
     ·subst e';rw[cM] at h4;cases h4
      rw[cR _ _ e] at h1;rw[bQ _ _ e] at h3
      exact absurd rfl (other i _ h1 h3)
     ·rw[cR _ _ e] at h1;rw[cR _ _ e'] at h2
      rw[bQ _ _ e] at h3;rw[bQ _ _ e'] at h4
      exact reld.inj i j k h1 h2 h3 h4
   imm:=reld.imm
   dom:=fun i k h=>by
    by_cases e:i=rid
    ·subst e;rw[cM] at h;cases h;rw[hs];exact hbd
    ·rw[bQ _ _ e] at h;exact reld.dom i k h
   glob:=fun g l hg'=>by
    obtain ⟨h1,h2⟩:=reld.glob g l hg'
    exact ⟨h1,fun j x hx=>let ⟨y,e,hy⟩:=h2 j x hx;⟨y,e,mono hy⟩⟩}
 refine ⟨⟨I,upd α rid b,ev,rel,hv _ (cM _ _ _),fun i hi=> ?_⟩,Nat.le_refl _⟩
 by_cases e:i=rid
 ·exact .inr (.inl e)
 ·rw[bQ _ _ e] at hi;exact .inl hi
section
variable {argTypes:Array TypeId} {ty st xt e:TypeId} {xd:TypeDesc} {i:TypeInfo} {x':Value} {n:Nat} {news:List Value}
theorem DO (h0:argTypes[0]? =some st) (h1:argTypes[1]? =some xt) (hst:P.underlying st=some (.slice e)) (hxt:P.underlying xt=some xd)
  (hni:(∃e',xd= .slice e')∨xd= .string) (hi:P.info? e=some i) (hlen:(Builtin.lenOf x').run P w= .ok n w) (hf:(Builtin.firstCells i.size n x').run P w= .ok news.toArray w)
  {g sLen sCap:Nat} {cur:Array Value} {ee:TypeId} (hroom:sLen+n≤sCap) (hg:w.heap[g]? =some (.cells cur ee (0,0))) (hfit:sLen*i.size+news.length≤cur.size) (hone:∀v∈news,v.oneCell'=true):
  (Builtin.append_ argTypes ty #[.slice (some ⟨g,0,none⟩) sLen sCap,x']).run P w=
   .ok (.slice (some ⟨g,0,none⟩) (sLen+n) sCap) (w.setRow g (cur.toList.take (sLen*i.size)++news++cur.toList.drop (sLen*i.size+news.length)).toArray):=by
 have hst':=run_storeCells_at P g (sLen*i.size) ee news 0 cur w hg (by simpa using hfit) hone
 simp only[Nat.add_zero] at hst'
 rcases hni with ⟨e',rfl⟩|rfl<;>simp[Builtin.append_,h0,h1,aE hst,aE hxt,sizeOf,typeInfo,hi,hlen,hroom,hf,Addr.add_lit,hst']
theorem DP (h0:argTypes[0]? =some st) (h1:argTypes[1]? =some xt) (hst:P.underlying st=some (.slice e)) (hxt:P.underlying xt=some xd)
  (hni:(∃e',xd= .slice e')∨xd= .string) (hi:P.info? e=some i) (hlen:(Builtin.lenOf x').run P w= .ok 0 w) (hf:(Builtin.firstCells i.size 0 x').run P w= .ok #[] w)
  {a:Option Addr} {sLen sCap:Nat} (hroom:sLen≤sCap):
  (Builtin.append_ argTypes ty #[.slice a sLen sCap,x']).run P w= .ok (.slice a sLen sCap) w:=by
 cases a<;>rcases hni with ⟨e',rfl⟩|rfl<;>simp[Builtin.append_,h0,h1,aE hst,aE hxt,sizeOf,typeInfo,hi,hlen,hroom,hf,storeCells]
theorem DQ (h0:argTypes[0]? =some st) (h1:argTypes[1]? =some xt) (hst:P.underlying st=some (.slice e)) (hxt:P.underlying xt=some xd)
  (hni:(∃e',xd= .slice e')∨xd= .string) (hi:P.info? e=some i) (hb0:i.bytes≠0) {z:Value} (hz:i.zero=some z) (hlen:(Builtin.lenOf x').run P w= .ok n w)
  (hf:∀w',w'.heap=w.heap→(Builtin.firstCells i.size n x').run P w'= .ok news.toArray w')
  {a:Option Addr} {sLen sCap:Nat} {olds:List Value} (hold:∀w',w'.heap=w.heap→(Builtin.firstCells i.size sLen (.slice a sLen sCap)).run P w'= .ok olds.toArray w')
  (hout:sCap<sLen+n) (hby:(sLen+n)*i.bytes≤140737488355328):
  (Builtin.append_ argTypes ty #[.slice a sLen sCap,x']).run P w=
   .ok (.slice (some ⟨w.heap.size,0,none⟩) (sLen+n) (grownCap w (sLen+n) sCap e))
    (w.drew.alloc (.cells (olds.toArray++news.toArray++Builtin.zeroCells z.cells (grownCap w (sLen+n) sCap e-(sLen+n))) e)):=by
 have hn:¬ (sLen+n≤sCap):=by omega
 have hfit:=growslice_fits hout hby
 have hfit':¬ (281474976710656<Builtin.nextslicecap (sLen+n) sCap*i.bytes):=by omega
 have hf':=hf w.drew rfl
 have ho':=hold w.drew rfl
 rcases hni with ⟨e',rfl⟩|rfl<;>
  simp[Builtin.append_,h0,h1,aE hst,aE hxt,sizeOf,typeInfo,hi,hlen,hn,hb0,hfit',zeroValue,hz,hf',ho',newRow,grownCap,Question.forced]<;>
  (congr 2;apply Array.ext';simp)
end
theorem sG (z:Array Value) (n:Nat):(Builtin.zeroCells z n).size=n*z.size:=by simp[Builtin.zeroCells]
theorem RepL.one {cs:List AV} {vs:List Value} (h:RepL w I α cs vs) (ho:bu cs=true):∀v∈vs,v.oneCell'=true:=fun u hu=>by
 obtain ⟨i,hi⟩:=List.getElem?_of_mem hu
 have hi2:i<cs.length:=by
  rw[h.1]
  rcases Nat.lt_or_ge i vs.length with h'|h'
  ·exact h'
  ·rw[List.getElem?_eq_none h'] at hi;cases hi
 exact (h.2 i cs[i] u (by simp[hi2]) hi).one (pn ho _ (List.getElem_mem hi2))
theorem sH {olds news:List Value} {cs:List AV} {e:TypeId} {z:Array Value} {n cap sz:Nat} {w':World} (c:Ctx P G call w I α H rid nx)
  (hw:w'.heap=w.heap.push (.cells (olds.toArray++news.toArray++Builtin.zeroCells z (cap-n)) e)) (hcs:RepL w I α cs (olds++news)) (hn:(olds++news).length=n*sz) (hz:z.size=sz) (hcap:n≤cap) (hos:SameOs w w':=by first|assumption|exact ⟨rfl,rfl,rfl,Nat.le_refl _⟩|exact ⟨rfl,rfl,rfl,Nat.le_succ _⟩):
  Post G w I α H rid nx (.rsl true rid 0 n sz) (aY H rid (.cells cs)) nx (.slice (some ⟨w.heap.size,0,none⟩) n cap) w':=by
 have hsz:(olds.toArray++news.toArray++Builtin.zeroCells z (cap-n)).size=cap*sz:=by
  simp only[Array.size_append,List.size_toArray,sG,hz]
  rw[←List.length_append,hn,←Nat.add_mul];congr 1;omega
 refine sx c hw (fun α' hα rel=> ?_) (fun α' hα=> .rsl true rid 0 n sz cap _ hα hcap (fun _=>⟨e,cap*sz, ?_,by omega⟩))
 ·refine ⟨_,e,xa hw, ?_, ?_⟩
  ·rw[hcs.1,hn,hsz];exact Nat.mul_le_mul_right _ hcap
  ·have ev:Ev w I α H w' I α H:=gN hw I (fun _ h=>h) (fun _ h=> .inl h)
   have:=hcs.ev c.rel ev
   have e1:((olds.toArray++news.toArray++Builtin.zeroCells z (cap-n)).toList.take cs.length)=olds++news:=by
    rw[hcs.1]
    simp only[Array.toList_append,List.take_left']
   rw[e1]
   exact ⟨this.1,fun i a b h1 h2=>(this.2 i a b h1 h2).mono (fun _ h=>h) hα (fun _ _ _=>rfl) (fun _ _ _=>rfl)⟩
 ·simp only[World.shape?,xa hw,hsz]
theorem DR {e:TypeId} {z:AV} {i:TypeInfo} (hi:P.info? e=some i) (hz:dp P e=some z):∃v,i.zero=some v∧v.cells.size=z.cells.length∧Rep w I α z v:=by
 obtain ⟨i',v,h1,h2,h3⟩:=gb hz
 rw[hi] at h1;cases h1
 refine ⟨v,h2, ?_,fc h3⟩
 have:RepL w I α z.cells v.cells.toList:=(fc h3).cells
 rw[this.1];simp
end
end Go.Proofs.Abs
/- Aggregates and slices out of parts. -/
namespace Go.Proofs.Abs
open Go
theorem sI:∀ {sz:Nat} {l:List AV},(∀a∈l,a.cells.length=sz)→∀ (i j:Nat) e x,l[i]? =some e→e.cells[j]? =some x→(flat l)[i*sz+j]? =some x
 |_,[],_,_,_,_,_,h,_=>by simp at h
 | sz,y::t,hs,i,j,e,x,h1,h2=>by
  have hy:=hs y (by simp)
  cases i with
  | zero=>
   simp at h1;subst h1
   have hj:j<y.cells.length:=by
    rcases Nat.lt_or_ge j y.cells.length with h'|h'
    ·exact h'
    ·rw[List.getElem?_eq_none h'] at h2;cases h2
   simp only[flat,Nat.zero_mul,Nat.zero_add]
   rw[List.getElem?_append_left hj];exact h2
  |succ i=>
   simp only[flat]
   rw[List.getElem?_append_right (by rw[hy,Nat.add_mul];omega),hy]
   have:=sI (l:=t) (fun a ha=>hs a (List.mem_cons_of_mem _ ha)) i j e x (by simpa using h1) h2
   rw[show (i+1)*sz+j-sz=i*sz+j by rw[Nat.add_mul];omega]
   exact this
theorem xu:∀ {sz:Nat} {l:List AV},(∀a∈l,a.cells.length=sz)→∀ (i:Nat) (v:AV),i<l.length→v.cells.length=sz→
  flat (l.set i v)=(flat l).take (i*sz)++v.cells++(flat l).drop (i*sz+v.cells.length)
 |_,[],_,_,_,h,_=>by simp at h
 | sz,y::t,hs,i,v,hi,hv=>by
  have hy:=hs y (by simp)
  cases i with
  |zero=>simp[flat,hv,←hy]
  |succ i=>
   simp only[List.set_cons_succ,flat]
   rw[xu (fun a ha=>hs a (by simp[ha])) i v (by simpa using hi) hv]
   have e1:(i+1)*sz=y.cells.length+i*sz:=by rw[hy,Nat.add_mul];omega
   rw[e1,List.take_length_add_append,Nat.add_assoc,List.drop_length_add_append]
   simp[List.append_assoc]
theorem DS {sz:Nat} {l:List AV} (h:∀a∈l,a.cells.length=sz) {i:Nat} {v:AV} (hv:v.cells.length=sz):∀a∈l.set i v,a.cells.length=sz:=by
 intro a ha
 rcases List.mem_or_eq_of_mem_set ha with h'|rfl
 ·exact h a h'
 ·exact hv
theorem nh {z:AV}:∀ {n:Nat} {a:AV},a∈bV z n→a=z
 |0,_,h=>by simp[bV] at h
 |n+1,a,h=>by
  simp only[bV,List.mem_cons] at h
  rcases h with h|h
  ·exact h
  ·exact nh h
theorem ni (z:AV):∀n:Nat,(bV z n).length=n
 |0=>rfl
 |n+1=>by simp[bV,ni z n]
theorem sJ:∀ (vs:List Value) (k off:Nat) (cs:Array Value),off+k+vs.length≤cs.size→
  ((vs.zipIdx k).foldl (fun cs (p:Value × Nat)=>cs.setIfInBounds (off+p.2) p.1) cs).toList=cs.toList.take (off+k)++vs++cs.toList.drop (off+k+vs.length)
 |[],k,off,cs,_=>by simp
 |v::vs,k,off,cs,h=>by
  simp only[List.zipIdx_cons,List.foldl_cons]
  rw[sJ vs (k+1) off _ (by simp at h⊢;omega)]
  simp only[Array.toList_setIfInBounds,List.length_cons] at*
  have:=list_seg_step cs.toList (off+k) v vs (by simp;omega)
  simpa [Nat.add_assoc] using this
section
variable {P:Program} {G:aF} {call:aI} {w:World} {I:Nat→Prop} {α:Nat→Option Nat} {H:ab} {rid nx:Nat}
theorem RepL.splice {l cs l':List AV} {vs us:List Value} {o:Nat} (h:RepL w I α l vs) (hc:RepL w I α cs us) (hs:splice l o cs=some l'):
  RepL w I α l' (vs.take o++us++vs.drop (o+us.length))∧(cs=[]∨o+cs.length≤l.length):=by
 obtain ⟨e1,e2⟩:=ga _ _ _ _ hs
 refine ⟨?_,e2⟩
 rw[e1,←hc.1]
 exact ((h.take o).append hc).append (h.drop _)
def hZ (w:World) (I:Nat→Prop) (α:Nat→Option Nat):List (Nat × AV)→List (Nat × Value)→Prop
 |[],[]=>True
 |(i,a)::t,(j,v)::u=>i=j∧Rep w I α a v∧hZ w I α t u
 |_,_=>False
theorem pp {s:Tr} {a:Act} (hs:ff w I α s a.tmps):∀ {l:List (Nat × Operand)} {vs:List (Nat × AV)},gJ (aS s) l=some vs→hZ w I α vs (l.map fun (i,x)=>(i,a.eval x))
 |[],vs,h=>by simp[gJ] at h;subst h;trivial
 | (i,x)::l,vs,h=>by
  simp only[gJ] at h
  split at h
  ·rename_i v hv
   simp only[Option.map_eq_some_iff] at h
   obtain ⟨us,h1,rfl⟩:=h
   exact ⟨rfl,be hs hv,pp hs h1⟩
  ·simp at h
theorem sK {place:Nat→Option (Nat × Nat)}:∀ {parts:List (Nat × AV)} {parts':List (Nat × Value)} {cells l:List AV} {cells':Array Value},hZ w I α parts parts'→RepL w I α cells cells'.toList→
  f5 place cells parts=some l→∃l',Instr.fill place cells' parts'=some l'∧RepL w I α l l'.toList
 |[],[],cells,l,cells',_,h,hf=>by simp[f5] at hf;subst hf;exact ⟨cells',rfl,h⟩
 | (i,a)::t,(j,v)::u,cells,l,cells',hp,h,hf=>by
  obtain ⟨rfl,hv,hp⟩:=hp
  simp only[f5] at hf
  split at hf
  ·rename_i off size hpl
   split at hf
   ·rename_i hsz
    simp only[Bool.and_eq_true] at hsz
    have hpos:0<size:=by simpa using hsz.2
    have hsz:a.cells.length=size:=by have:=hsz.1;rw[aC] at this;exact beq_iff.1 this
    split at hf
    ·rename_i c hc
     have hcs:=hv.cells
     have hvs:v.cells.size=size:=by rw[←hsz,hcs.1];simp
     obtain ⟨h1,h2⟩:=h.splice hcs hc
     simp only[Instr.fill,hpl,hvs]
     have hfit:off+size≤cells'.size:=by
      rcases h2 with h2|h2
      ·rw[h2] at hsz;simp at hsz;omega
      ·have:=h.1;simp at this;omega
     have:¬ ((decide (size≠size)||decide (off+size>cells'.size))=true):=by simp;omega
     rw[if_neg this]
     refine sK hp ?_ hf
     have e:=sJ v.cells.toList 0 off cells' (by simp;omega)
     simp only[Nat.add_zero] at e
     have e':(v.cells.zipIdx.foldl (fun cs (p:Value × Nat)=>cs.setIfInBounds (off+p.2) p.1) cells').toList=cells'.toList.take off++v.cells.toList++cells'.toList.drop (off+v.cells.toList.length):=by
      rw[←e]
      congr 1
      rw[←Array.foldl_toList,Array.toList_zipIdx]
     rw[e'];exact h1
    ·simp at hf
   ·simp at hf
  ·simp at hf
 |[],_::_,_,_,_,hp,_,_=>hp.elim
 |_::_,[],_,_,_,hp,_,_=>by
  rename_i p _ _ _ _ ;exact hp.elim
theorem xv:∀ {fs:List Field} {pl:List (Nat × Nat)},kV P fs=some pl→fs.mapM (fun f=>(P.info? f.type).map fun i=>(f.offset,i.size))=some pl
 |[],pl,h=>by simp[kV] at h;subst h;rfl
 | f::fs,pl,h=>by
  simp only[kV] at h
  split at h
  ·rename_i s hs
   split at h
   ·rename_i l hl
    simp only[Option.some.injEq] at h;subst h
    obtain ⟨i,h1,rfl⟩:=sA hs
    simp[List.mapM_cons,h1,xv hl]
   ·simp at h
  ·simp at h
theorem DT {t:TypeId} {parts:List (Nat × AV)} {parts':Array (Nat × Value)} {v:AV} (hp:hZ w I α parts parts'.toList) (h:mU P t parts=some v):
  ∃v',(Instr.build t parts').run P w= .ok v' w∧Rep w I α v v':=by
 unfold mU at h
 split at h
 ·rename_i z fs hz ht
  split at h
  ·rename_i pl hpl
   cases hf:f5 (cg pl) z.cells parts with
   |none=>simp[hf,jV] at h
   |some l=>
    simp only[hf,jV,Option.some.injEq] at h;subst h
    obtain ⟨i,zv,h1,h2,h3⟩:=gb hz
    have hzr:RepL w I α z.cells zv.cells.toList:=(fc h3).cells
    obtain ⟨l',e1,e2⟩:=sK hp hzr hf
    refine ⟨.agg l',run_build w t parts' l' ?_,Rep.agg_iff.2 ⟨l',rfl,e2⟩⟩
    have hg:(fun x=>(pl.toArray)[x]?)=cg pl:=by funext x;rw[eA];simp
    simp only[Program.built,h1,ht,h2,xv hpl]
    rw[hg];exact e1
  ·simp at h
 ·rename_i z n e hz ht
  split at h
  ·rename_i s hs
   cases hf:f5 (fun i=>some (i*s,s)) z.cells parts with
   |none=>simp[hf,jV] at h
   |some l=>
    simp only[hf,jV,Option.some.injEq] at h;subst h
    obtain ⟨i,zv,h1,h2,h3⟩:=gb hz
    obtain ⟨ie,h4,rfl⟩:=sA hs
    have hzr:RepL w I α z.cells zv.cells.toList:=(fc h3).cells
    obtain ⟨l',e1,e2⟩:=sK hp hzr hf
    exact ⟨.agg l',run_build w t parts' l' (by simp only[Program.built,h1,ht,h2,h4];exact e1),Rep.agg_iff.2 ⟨l',rfl,e2⟩⟩
  ·simp at h
 ·simp at h
theorem lz {full:Bool} {es:List AV} {b base cap sz:Nat} (hI:I b) (hs:∀a∈es,a.cells.length=sz) (hc:es.length≤cap) (hf:full=true→cap=es.length) (hr:Row w I α b base (flat es)):
  Rep w I α (.fsl full es) (.slice (some ⟨b,base,none⟩) es.length cap):=by
 refine .fsl full es _ _ cap sz b base (fun i j=>(w.cell? ⟨b,base+i*sz+j,none⟩).getD undef) rfl hc hf (.inl rfl) (fun _=>hI) hs (fun i e j c h1 h2=> ?_) (fun i e j c h1 h2=> ?_)
 ·obtain ⟨y,h3,_⟩:=hr _ _ (sI hs i j e c h1 h2)
  rw[←Nat.add_assoc] at h3
  rw[h3];rfl
 ·obtain ⟨y,h3,h4⟩:=hr _ _ (sI hs i j e c h1 h2)
  rw[←Nat.add_assoc] at h3
  rw[h3];exact h4
theorem kc {t e:TypeId} (h:da P t=some e):P.underlying t=some (.slice e):=by
 unfold da at h
 split at h
 ·rename_i e' ht;simp at h;subst h;exact ht
 ·simp at h
theorem sL {sz:Nat} (hpos:0<sz):∀ {parts:List (Nat × AV)} {parts':List (Nat × Value)} {es es':List AV} {cells':Array Value},hZ w I α parts parts'→RepL w I α (flat es) cells'.toList→(∀a∈es,a.cells.length=sz)→
  jW sz es parts=some es'→∃l',Instr.fill (fun i=>some (i*sz,sz)) cells' parts'=some l'∧RepL w I α (flat es') l'.toList∧(∀a∈es',a.cells.length=sz)∧es'.length=es.length
 |[],[],es,es',cells',_,h,hs,hf=>by simp[jW] at hf;subst hf;exact ⟨cells',rfl,h,hs,rfl⟩
 | (i,a)::t,(j,v)::u,es,es',cells',hp,h,hs,hf=>by
  obtain ⟨rfl,hv,hp⟩:=hp
  simp only[jW] at hf
  split at hf
  ·rename_i hc
   simp only[Bool.and_eq_true] at hc
   have hsz:a.cells.length=sz:=by have:=hc.1;rw[aC] at this;exact beq_iff.1 this
   have hi:i<es.length:=by have:=hc.2;rw[aC] at this;simpa using this
   have hcs:=hv.cells
   have hvs:v.cells.size=sz:=by rw[←hsz,hcs.1];simp
   have hfl:(flat es).length=es.length*sz:=hY hs
   have hfit:i*sz+sz≤cells'.size:=by
    have h1:=h.1
    simp only[Array.length_toList] at h1
    have:(i+1)*sz≤es.length*sz:=Nat.mul_le_mul_right _ hi
    rw[Nat.add_mul] at this;omega
   simp only[Instr.fill,hvs]
   have:¬ ((decide (sz≠sz)||decide (i*sz+sz>cells'.size))=true):=by simp;omega
   rw[if_neg this]
   rw[xf] at hf
   have e:=sJ v.cells.toList 0 (i*sz) cells' (by simp;omega)
   simp only[Nat.add_zero] at e
   have e':(v.cells.zipIdx.foldl (fun cs (p:Value × Nat)=>cs.setIfInBounds (i*sz+p.2) p.1) cells').toList=cells'.toList.take (i*sz)++v.cells.toList++cells'.toList.drop (i*sz+v.cells.toList.length):=by
    rw[←e]
    congr 1
    rw[←Array.foldl_toList,Array.toList_zipIdx]
   obtain ⟨l',h1,h2,h3,h4⟩:=sL hpos hp (by
    rw[e',xu hs i a hi hsz,←hcs.1]
    exact ((h.take _).append hcs).append (h.drop _)) (DS hs hsz) hf
   exact ⟨l',h1,h2,h3,by rw[h4];simp⟩
  ·simp at hf
 |[],_::_,_,_,_,hp,_,_,_=>hp.elim
 |_::_,[],_,_,_,hp,_,_,_=>by
  rename_i p _ _ _ _ ;exact hp.elim
theorem nj {z:AV} {zv:Array Value} {n sz:Nat} (hpos:0<sz) (hz:RepL w I α z.cells zv.toList) (hs:z.cells.length=sz):
  RepL w I α (flat (bV z n)) (((Array.range (n*sz)).map (zv[· %zv.size]!)).toList):=by
 have hall:∀a∈bV z n,a.cells.length=sz:=fun a ha=>by rw[nh ha];exact hs
 have hzv:zv.size=sz:=by rw[←hs,hz.1];simp
 refine ⟨by rw[hY hall,ni];simp,fun i x y h1 h2=> ?_⟩
 obtain ⟨e,h3,h4⟩:=sD hpos hall i x h1
 have he:=nh (List.mem_of_getElem? h3)
 subst he
 have hi:i<n*sz:=by
  rcases Nat.lt_or_ge i (n*sz) with h'|h'
  ·exact h'
  ·rw[List.getElem?_eq_none (by rw[hY hall,ni];exact h')] at h1;cases h1
 have hm:i%sz<sz:=Nat.mod_lt _ hpos
 have hy:y=zv[i%zv.size]! :=by
  simp[hi] at h2
  exact h2.symm
 rw[hy,hzv]
 refine hz.2 _ _ _ h4 ?_
 rw[getElem!_pos zv (i%sz) (by omega)]
 simp[hzv,hm]
theorem DU {t:TypeId} {n:Nat} {parts:List (Nat × AV)} {parts':Array (Nat × Value)} {v:AV} (c:Ctx P G call w I α H rid nx) (hp:hZ w I α parts parts'.toList) (h:mW P t n parts=some v):
  cy P G call w I α H rid nx (Instr.buildSlice t n parts') (.val v):=by
 unfold mW at h
 split at h
 ·rename_i e he
  have ht:=kc he
  split at h
  ·rename_i sz z hsz hz
   split at h
   ·rename_i hc
    simp only[Bool.and_eq_true] at hc
    have hle:=Nat.le_of_ble_eq_true hc.1.1
    have hpos:0<sz:=by simpa using hc.2
    have hzl:z.cells.length=sz:=by have:=hc.1.2;rw[aC] at this;exact beq_iff.1 this
    cases hf:jW sz (bV z n) parts with
    |none=>simp[hf,mV] at h
    | some es=>
     simp only[hf,mV,Option.some.injEq] at h;subst h
     obtain ⟨i,zv,h1,h2,h3⟩:=gb hz
     have hzr:RepL w I α z.cells zv.cells.toList:=(fc h3).cells
     have hnot:¬ (n*sz>2^24):=by omega
     ·have hall:∀a∈bV z n,a.cells.length=sz:=fun a ha=>by rw[nh ha];exact hzl
      obtain ⟨l',e1,e2,e3,e4⟩:=sL hpos hp (nj (n:=n) hpos hzr hzl) hall hf
      rw[ni] at e4
      by_cases hn:n*sz=0
      ·have hn0:n=0:=by rcases Nat.mul_eq_zero.1 hn with h|h<;>omega
       subst hn0
       have hes:es=[]:=List.eq_nil_of_length_eq_zero e4
       subst hes
       have r0:Array.range 0= #[]:=rfl
       have e1':Instr.fill (fun i=>some (i*sz,sz)) #[] parts'.toList=some l':=by simpa [r0] using e1
       refine sy c (w':={w with heap:=w.heap.push (.cells l' e)}) (o:= .cells l' e) (v':= .slice (some ⟨w.heap.size,0,none⟩) 0 0) ?_ rfl (fun I' _ hnew _ _=> ?_)
       ·simp[Instr.buildSlice,aE ht,cN hsz,r0,e1',newRow]
       ·exact lz (sz:=sz) hnew e3 (Nat.le_refl _) (fun _=>rfl) (fun j c hj=>by simp[flat] at hj)
      ·refine sy c (w':={w with heap:=w.heap.push (.cells l' e)}) (o:= .cells l' e) (v':= .slice (some ⟨w.heap.size,0,none⟩) n n) ?_ rfl (fun I' _ hnew rel ev=> ?_)
       ·simp[Instr.buildSlice,aE ht,cN hsz,hnot,hn,gg h1 h2,e1,newRow]
       ·rw[←e4]
        refine lz (sz:=sz) hnew e3 (Nat.le_refl _) (fun _=>rfl) ?_
        exact DK (c:=l') (e:=e) (fr:=(0,0)) (by simp) (e2.ev c.rel ev)
   ·simp at h
  ·simp at h
 ·simp at h
theorem DV {t:TypeId} {n:Nat} {parts:List (Nat × AV)} {parts':Array (Nat × Value)} {es:List AV} {el:TypeId} {sz:Nat} (c:Ctx P G call w I α H rid nx) (hp:hZ w I α parts parts'.toList) (h:mW P t n parts=some (.fsl true es))
  (hel:da P t=some el) (hsz':bC P el=some sz):cy P G call w I α H rid nx (Instr.buildSlice t n parts') (.new (.cells (flat es)) fun id=> .rsl true id 0 n sz):=by
 unfold mW at h
 rw[hel] at h
 simp only at h
 have ht:=kc hel
 split at h
 ·rename_i sz0 z hsz hz
  have hee:sz0=sz:=by rw[hsz] at hsz';exact (Option.some.inj hsz')
  subst hee
  split at h
  ·rename_i hc
   simp only[Bool.and_eq_true] at hc
   have hle:=Nat.le_of_ble_eq_true hc.1.1
   have hpos:0<sz0:=by simpa using hc.2
   have hzl:z.cells.length=sz0:=by have:=hc.1.2;rw[aC] at this;exact beq_iff.1 this
   cases hf:jW sz0 (bV z n) parts with
   |none=>simp[hf,mV] at h
   | some es'=>
    simp only[hf,mV,Option.some.injEq,AV.fsl.injEq,true_and] at h;subst h
    obtain ⟨i,zv,h1,h2,h3⟩:=gb hz
    have hzr:RepL w I α z.cells zv.cells.toList:=(fc h3).cells
    have hnot:¬ (n*sz0>2^24):=by omega
    have hall:∀a∈bV z n,a.cells.length=sz0:=fun a ha=>by rw[nh ha];exact hzl
    obtain ⟨l',e1,e2,e3,e4⟩:=sL hpos hp (nj (n:=n) hpos hzr hzl) hall hf
    rw[ni] at e4
    have hl':l'.size=n*sz0:=by
     have:=e2.1
     rw[hY e3,e4] at this
     simpa using this.symm
    have hrun:(Instr.buildSlice t n parts').run P w= .ok (.slice (some ⟨w.heap.size,0,none⟩) n n) (w.alloc (.cells l' el)):=by
     by_cases hn:n*sz0=0
     ·have hn0:n=0:=by rcases Nat.mul_eq_zero.1 hn with h|h<;>omega
      subst hn0
      have r0:Array.range 0= #[]:=rfl
      have e1':Instr.fill (fun i=>some (i*sz0,sz0)) #[] parts'.toList=some l':=by simpa [r0] using e1
      simp[Instr.buildSlice,aE ht,cN hsz,r0,e1',newRow]
     ·simp[Instr.buildSlice,aE ht,cN hsz,hnot,hn,gg h1 h2,e1,newRow]
    have hnew:(w.alloc (.cells l' el)).heap[w.heap.size]? =some (.cells l' el (0,0)):=by show (w.heap.push (.cells l' el))[w.heap.size]? =_;simp
    refine ng c (w':=w.alloc (.cells l' el)) (by rw[hrun];rfl) rfl (fun α' hα rel=> ?_) (fun α' hα=> .rsl true rid 0 n sz0 n _ hα (Nat.le_refl _) (fun _=>⟨el,n*sz0, ?_,by omega⟩))
    ·have ev:Ev w I α H (w.alloc (.cells l' el)) I α H:=gN rfl I (fun _ h=>h) (fun _ h=> .inl h)
     refine sC hnew ?_
     have:=e2.ev c.rel ev
     exact ⟨this.1,fun i a b h1 h2=>(this.2 i a b h1 h2).mono (fun _ h=>h) hα (fun _ _ _=>rfl) (fun _ _ _=>rfl)⟩
    ·simp only[World.shape?,hnew,hl']
  ·simp at h
 ·simp at h
structure sM (P:Program) (w:World) (argTypes:Array TypeId) (ty:TypeId) (x':Value) (i:TypeInfo) (zv:Value) (e:TypeId) (n:Nat) (news:List Value):Prop where
 inn:∀ {g sLen sCap:Nat} {cur:Array Value} {ee:TypeId},sLen+n≤sCap→w.heap[g]? =some (.cells cur ee (0,0))→sLen*i.size+news.length≤cur.size→(∀v∈news,v.oneCell'=true)→
  (Builtin.append_ argTypes ty #[.slice (some ⟨g,0,none⟩) sLen sCap,x']).run P w=
   .ok (.slice (some ⟨g,0,none⟩) (sLen+n) sCap) (w.setRow g (cur.toList.take (sLen*i.size)++news++cur.toList.drop (sLen*i.size+news.length)).toArray)
 nought:n=0→∀ {a:Option Addr} {sLen sCap:Nat},sLen≤sCap→(Builtin.append_ argTypes ty #[.slice a sLen sCap,x']).run P w= .ok (.slice a sLen sCap) w
 out:∀ {a:Option Addr} {sLen sCap:Nat} {olds:List Value},(∀w',w'.heap=w.heap→(Builtin.firstCells i.size sLen (.slice a sLen sCap)).run P w'= .ok olds.toArray w')→sCap<sLen+n→(sLen+n)*i.bytes≤140737488355328→
  (Builtin.append_ argTypes ty #[.slice a sLen sCap,x']).run P w=
   .ok (.slice (some ⟨w.heap.size,0,none⟩) (sLen+n) (grownCap w (sLen+n) sCap e))
    (w.drew.alloc (.cells (olds.toArray++news.toArray++Builtin.zeroCells zv.cells (grownCap w (sLen+n) sCap e-(sLen+n))) e))
theorem DW {argTypes:Array TypeId} {ty st xt e:TypeId} {xd:TypeDesc} {i:TypeInfo} {x' zv:Value} {n:Nat} {vs:List Value} (h0:argTypes[0]? =some st) (h1:argTypes[1]? =some xt) (hst:P.underlying st=some (.slice e)) (hxt:P.underlying xt=some xd)
  (hni:(∃e',xd= .slice e')∨xd= .string) (hi:P.info? e=some i) (hb0:i.bytes≠0) (hzv:i.zero=some zv) (hvl:vs.length=n*i.size) (hlen:(Builtin.lenOf x').run P w= .ok n w)
  (hfirst:∀n' w',n'≤n→w'.heap=w.heap→(Builtin.firstCells i.size n' x').run P w'= .ok (vs.take (n'*i.size)).toArray w'):sM P w argTypes ty x' i zv e n vs:=by
 have hf:∀w',w'.heap=w.heap→(Builtin.firstCells i.size n x').run P w'= .ok vs.toArray w':=fun w' hw'=>by
  rw[hfirst n w' (Nat.le_refl _) hw',←hvl,List.take_length]
 refine ⟨fun hr hg hfit hone=>DO h0 h1 hst hxt hni hi hlen (hf w rfl) hr hg hfit hone,fun hn a sLen sCap hle=> ?_,fun hold ho hby=>DQ h0 h1 hst hxt hni hi hb0 hzv hlen hf hold ho hby⟩
 subst hn
 have hf0:(Builtin.firstCells i.size 0 x').run P w= .ok #[] w:=by
  rw[hfirst 0 w (Nat.zero_le _) rfl];simp
 exact DP h0 h1 hst hxt hni hi hlen hf0 hle
theorem xw (z:Array Value):Builtin.zeroCells z 0= #[]:=by
 apply Array.ext'
 simp[Builtin.zeroCells]
theorem DX {argTypes:Array TypeId} {ty st xt e:TypeId} {ik k:IntKind} {i:TypeInfo} {zv:Value} {n:Nat} (h0:argTypes[0]? =some st) (h1:argTypes[1]? =some xt) (hst:P.underlying st=some (.slice e)) (hxt:P.underlying xt=some (.int ik))
  (hi:P.info? e=some i) (hb0:i.bytes≠0) (hsz0:i.size≠0) (hzv:i.zero=some zv) (hn:n≤9223372036854775807) (hb:n*i.bytes≤281474976710656):
  sM P w argTypes ty (.int k n) i zv e n (Builtin.zeroCells zv.cells n).toList:=by
 have w1:IntKind.i64.wrap (n:Int)=n:=IntWalk.i64_in _ ⟨by omega,by omega⟩
 have e1:¬ ((n:Int)<0):=by omega
 have e2:¬ ((281474976710656:Int)<(n:Int)*(i.bytes:Int)):=by
  have:(n:Int)*(i.bytes:Int)=((n*i.bytes:Nat):Int):=by simp
  rw[this];omega
 have hsA:bC P e=some i.size:=by simp[bC,hi]
 have w0:IntKind.i64.wrap 0=0:=IntWalk.i64_in _ ⟨by omega,by omega⟩
 refine ⟨fun {g sLen sCap cur ee} hr hg hfit hone=> ?_,fun hn0 {a sLen sCap} hle=> ?_,fun {a sLen sCap olds} hold hout hby=> ?_⟩
 ·have hst':=run_storeCells_at P g (sLen*i.size) ee (Builtin.zeroCells zv.cells n).toList 0 cur w hg (by simpa using hfit) hone
  simp only[Nat.add_zero] at hst'
  by_cases hz:n=0
  ·subst hz
   have hr':sLen≤sCap:=hr
   rw[xw] at hst'⊢
   simp only[List.append_nil,List.length_nil,Nat.add_zero,List.take_append_drop] at hst'
   simp[Builtin.append_,h0,h1,aE hst,aE hxt,fe hi,cN hsA,asInt,asIntOf,w0,hr',Addr.add_lit,hst']
  ·have hzz:¬ (n*i.size=0):=fun h=>by rcases Nat.mul_eq_zero.1 h with h|h<;>omega
   simp[Builtin.append_,h0,h1,aE hst,aE hxt,fe hi,cN hsA,asInt,asIntOf,w1,e1,e2,hr,hzz,gg hi hzv,Addr.add_lit,hst']
 ·subst hn0
  cases a<;>simp[Builtin.append_,h0,h1,aE hst,aE hxt,fe hi,cN hsA,asInt,asIntOf,w0,hle,storeCells]
 ·have hnr:¬ (sLen+n≤sCap):=by omega
  have hfit:=growslice_fits hout hby
  have hfit':¬ (281474976710656<Builtin.nextslicecap (sLen+n) sCap*i.bytes):=by omega
  have hneed:¬ (((sLen+n:Nat):Int)>IntKind.i64.max):=by
   have h1:sLen+n≤(sLen+n)*i.bytes:=Nat.le_mul_of_pos_right _ (Nat.pos_of_ne_zero hb0)
   have h2:IntKind.i64.max=9223372036854775807:=by decide
   rw[h2];omega
  have ho':=hold w.drew rfl
  by_cases hz:n=0
  ·subst hz
   rw[xw]
   have hnr':¬ (sLen≤sCap):=hnr
   have hneed2:¬ (9223372036854775807<(sLen:Int)):=by
    have h2:IntKind.i64.max=9223372036854775807:=by decide
    rw[h2] at hneed;omega
   have hfit2:¬ (281474976710656<Builtin.nextslicecap sLen sCap*i.bytes):=hfit'
   simp[Builtin.append_,h0,h1,aE hst,aE hxt,fe hi,cN hsA,asInt,asIntOf,w0,hnr',hneed2,hfit2,ho',gg hi hzv,newRow,grownCap,Question.forced]
  ·have hzz:¬ (n*i.size=0):=fun h=>by rcases Nat.mul_eq_zero.1 h with h|h<;>omega
   have hneed2:¬ (9223372036854775807<(sLen:Int)+(n:Int)):=by
    have h2:IntKind.i64.max=9223372036854775807:=by decide
    rw[h2] at hneed;omega
   simp[Builtin.append_,h0,h1,aE hst,aE hxt,fe hi,cN hsA,asInt,asIntOf,w1,e1,e2,hnr,hneed2,hfit',hzz,ho',gg hi hzv,newRow,grownCap,Question.forced]
theorem DY {m:Result Next} {argTypes:Array TypeId} {ty st xt el:TypeId} {xd:TypeDesc} {i:TypeInfo} {z x:AV} {zv x':Value} {k:Nat→List AV→Option Eff} {e:Eff} (c:Ctx P G call w I α H rid nx) (hx:Rep w I α x x')
  (h0:argTypes[0]? =some st) (h1:argTypes[1]? =some xt) (hst:P.underlying st=some (.slice el)) (hxt:P.underlying xt=some xd) (hi:P.info? el=some i) (hb0:i.bytes≠0) (hsz0:i.size≠0)
  (hz:dp P el=some z) (hzl:z.cells.length=i.size) (hzv:i.zero=some zv) (hzs:zv.cells.size=i.size) (h:i4 xd i.size i.bytes z x k=some e)
  (hk:∀n cs vs e',k n cs=some e'→RepL w I α cs vs→vs.length=n*i.size→sM P w argTypes ty x' i zv el n vs→cS P G call w I α H rid nx m e'):cS P G call w I α H rid nx m e:=by
 have src:(∃e',xd= .slice e')∨xd= .string→e9 i.size x k=some e→cS P G call w I α H rid nx m e:=fun hni h=>
  po c hx h fun n cs vs e' hk' hcs hvl hlen hfirst=>hk n cs vs e' hk' hcs hvl (DW h0 h1 hst hxt hni hi hb0 hzv hvl hlen hfirst)
 unfold i4 at h
 split at h
 ·exact src (.inl ⟨_,rfl⟩) h
 ·exact src (.inr rfl) h
 ·split at h
  ·rename_i ik kk n
   split at h
   ·rename_i hc
    simp only[Bool.and_eq_true] at hc
    have c1:=Nat.le_of_ble_eq_true hc.1
    have c2:=Nat.le_of_ble_eq_true hc.2
    cases hx
    obtain ⟨i',zv',g1,g2,g3⟩:=gb hz
    rw[hi] at g1;cases g1
    rw[hzv] at g2;cases g2
    have hzr:RepL w I α z.cells zv.cells.toList:=(fc g3).cells
    have hzz:=nj (n:=n) (Nat.pos_of_ne_zero hsz0) hzr hzl
    have hzc:(Builtin.zeroCells zv.cells n).toList=((Array.range (n*i.size)).map (zv.cells[· %zv.cells.size]!)).toList:=by
     simp only[Builtin.zeroCells,hzs]
    exact hk n _ (Builtin.zeroCells zv.cells n).toList e h (by rw[hzc];exact hzz) (by simp[sG,hzs]) (DX h0 h1 hst hxt hi hb0 hsz0 hzv c1 c2)
   ·simp at h
  ·simp at h
 ·simp at h
theorem DZ {argTypes:Array TypeId} {ty:TypeId} {s x:AV} {s' x':Value} {e:Eff} (c:Ctx P G call w I α H rid nx) (hs:Rep w I α s s') (hx:Rep w I α x x') (h:jX P argTypes s x=some e):
  cy P G call w I α H rid nx (Builtin.append_ argTypes ty #[s',x']) e:=by
 unfold jX at h
 split at h
 ·rename_i st xt h0 h1
  split at h
  ·rename_i el xd hst hxt
   ·split at h
    ·rename_i i z hi hz
     split at h
     ·simp at h
     ·rename_i hc
      simp only[Bool.or_eq_true,not_or,Bool.not_eq_true',Bool.not_eq_true] at hc
      have hsz0:i.size≠0:=beq_false_iff.1 hc.1.1
      have hb0:i.bytes≠0:=beq_false_iff.1 hc.1.2
      have hzl:z.cells.length=i.size:=by
       have h2:Nat.beq (ac z.cells) i.size=true:=by
        cases hq:Nat.beq (ac z.cells) i.size with
        |true=>rfl
        |false=>rw[hq] at hc;simp at hc
       have:=beq_iff.1 h2;rwa [aC] at this
      obtain ⟨zv,hzv,hzs,_⟩:=DR (w:=w) (I:=I) (α:=α) hi hz
      rw[hzl] at hzs
      refine DY (ty:=ty) c hx h0 h1 hst hxt hi hb0 hsz0 hz hzl hzv hzs h fun n cs vs e' hk hcs hvl R=> ?_
      split at hk
      ·-- a nil slice
       cases hs
       split at hk
       ·rename_i hn
        have hn:n=0:=beq_iff.1 hn
        subst hn
        simp only[Option.some.injEq] at hk;subst hk
        exact eQ c (by rw[R.nought rfl (Nat.le_refl _)];rfl) .nilsl
       ·rename_i hn
        have hn:n≠0:=fun e=>hn (beq_iff.2 e)
        split at hk
        ·rename_i hby
         have hby:=Nat.le_of_ble_eq_true hby
         simp only[Option.some.injEq] at hk;subst hk
         intro d u H' nx' ft he
         have:u= .rsl true rid 0 n i.size∧H'=aY H rid (.cells cs)∧nx'=nx:=by
          cases d<;>(simp only[aM,Option.some.injEq,Prod.mk.injEq] at he;obtain ⟨rfl,rfl,rfl,_⟩:=he;exact ⟨rfl,rfl,rfl⟩)
         obtain ⟨rfl,rfl,rfl⟩:=this
         have hrun:=R.out (a:=none) (sLen:=0) (sCap:=0) (olds:=[]) (fun w' _=>by simp[Builtin.firstCells]) (by omega) (by simpa using hby)
         rw[hrun]
         simp only[Nat.zero_add,Result.andThen_ok]
         exact sH (olds:=[]) (news:=vs) c rfl (by simpa using hcs) (by simpa using hvl) hzs (grownCap_ge w _ _ _)
        ·simp at hk
      ·-- a full slice
       rename_i es
       split at hk
       ·rename_i hn
        have hn:n=0:=beq_iff.1 hn
        subst hn
        simp only[Option.some.injEq] at hk;subst hk
        obtain ⟨a,len,cap,rfl,hlc⟩:∃a len cap,s'= .slice a len cap∧len≤cap:=by
         cases hs with
         |fsl _ _ a len cap sz b base g hl hc hf ha hI hs hg hr=>exact ⟨a,len,cap,rfl,hc⟩
        exact eQ c (by rw[R.nought rfl hlc];rfl) hs
       ·rename_i hn
        have hn:n≠0:=fun e=>hn (beq_iff.2 e)
        split at hk
        ·rename_i hby
         simp only[Bool.and_eq_true] at hby
         have hall:=hby.2
         have hby:=Nat.le_of_ble_eq_true hby.1
         rw[aC] at hby
         simp only[Option.some.injEq] at hk;subst hk
         intro d u H' nx' ft he
         have:u= .rsl true rid 0 (ac es+n) i.size∧H'=aY H rid (.cells (flat es++cs))∧nx'=nx:=by
          cases d<;>(simp only[aM,Option.some.injEq,Prod.mk.injEq] at he;obtain ⟨rfl,rfl,rfl,_⟩:=he;exact ⟨rfl,rfl,rfl⟩)
         obtain ⟨rfl,rfl,rfl⟩:=this
         obtain ⟨a,cap,us,rfl,hlc,hfull,hus,hul,hfi⟩:=fsl_flat (P:=P) hs hall
         have hcap:=hfull rfl
         subst hcap
         have hrun:=R.out (a:=a) (sLen:=es.length) (sCap:=es.length) (olds:=us) (fun w' hw'=>by
          rw[hfi es.length w' (Nat.le_refl _) hw',←hul,List.take_length]) (by omega) hby
         rw[hrun,aC]
         exact sH c rfl (hus.append hcs) (by rw[List.length_append,hul,hvl,Nat.add_mul]) hzs (grownCap_ge w _ _ _)
        ·simp at hk
      ·-- any slice, nothing appended
       rename_i es
       split at hk
       ·rename_i hn
        have hn:n=0:=beq_iff.1 hn
        subst hn
        simp only[Option.some.injEq] at hk;subst hk
        obtain ⟨a,len,cap,rfl,hlc⟩:∃a len cap,s'= .slice a len cap∧len≤cap:=by
         cases hs with
         |fsl _ _ a len cap sz b base g hl hc hf ha hI hs hg hr=>exact ⟨a,len,cap,rfl,hc⟩
        exact eQ c (by rw[R.nought rfl hlc];rfl) hs
       ·simp at hk
      ·-- a row of the call's own
       rename_i id len sz
       split at hk
       ·rename_i hby
        simp only[Bool.and_eq_true] at hby
        have hsz:sz=i.size:=beq_iff.1 hby.2
        subst hsz
        have hone:=hby.1.2
        have hby:=Nat.le_of_ble_eq_true hby.1.1
        simp only[Option.some.injEq] at hk;subst hk
        cases hs with
        | rsl _ _ _ _ _ cap b hb hlc ho=>
         obtain ⟨e0,n0,hshape,hcapn⟩:=ho rfl
         refine Ds c fun blk b' blk' v hg hα hB hkk=> ?_
         rw[hb] at hα;cases hα
         split at hkk
         ·rename_i l
          obtain ⟨cur,ee,k1,k2,k3⟩:=hB
          have hcur:cap*i.size=cur.size:=by
           simp only[World.shape?,k1,Option.some.injEq,Prod.mk.injEq] at hshape
           omega
          have hlenmul:len*i.size≤cap*i.size:=Nat.mul_le_mul_right _ hlc
          -- in place
          have inplace:len+n≤cap→∀l',(∀w',Rel G w' I α (aZ H id)→Ev w I α H w' I α (aZ H id)→w'.heap[b]? =some (.cells (cur.toList.take (len*i.size)++vs++cur.toList.drop (len*i.size+vs.length)).toArray ee (0,0))→BRel w' I α b (.cells l'))→
            dK P (Post G w I α H rid nx (.rsl true rid 0 (len+n) i.size) (aY (aZ H id) rid (.cells l')) nx) (((Builtin.append_ argTypes ty #[.slice (some ⟨b,0,none⟩) len cap,x']).run P w).andThen fun v w'=> .ok (.value v) w'):=by
           intro hroom l' hl'
           have hmul:(len+n)*i.size≤cap*i.size:=Nat.mul_le_mul_right _ hroom
           have hfit:len*i.size+vs.length≤cur.size:=by rw[hvl,←Nat.add_mul];omega
           rw[R.inn hroom k1 hfit (hcs.one hone)]
           refine DN c hg hb (by simp) (fun k hk=>setRow_other w b k _ hk) ?_ (fun rel ev=>hl' _ rel ev (setRow_heap w b cur _ ee _ k1)) (fun α' hα'=> .rsl true rid 0 _ _ cap b hα' hroom (fun _=>⟨e0,n0, ?_,hcapn⟩))
           ·simp only[World.shape?,setRow_heap w b cur _ ee _ k1,k1]
            simp;omega
           ·simp only[World.shape?,k1,Option.some.injEq,Prod.mk.injEq] at hshape
            simp only[World.shape?,setRow_heap w b cur _ ee _ k1,Option.some.injEq,Prod.mk.injEq]
            refine ⟨hshape.1, ?_⟩
            simp;omega
          split at hkk
          ·rename_i hroom
           have hroom:=Nat.le_of_ble_eq_true hroom
           rw[aC] at hroom
           split at hkk
           ·rename_i l' hl'
            simp only[Option.some.injEq,Prod.mk.injEq] at hkk
            obtain ⟨rfl,rfl⟩:=hkk
            have hle:len+n≤cap:=by
             have:(len+n)*i.size≤cap*i.size:=by omega
             exact Nat.le_of_mul_le_mul_right this (Nat.pos_of_ne_zero hsz0)
            exact inplace hle l' (fun w' rel ev hw'=>xq k2 (k3.ev c.rel ev) hl' (hcs.ev c.rel ev) hw')
           ·simp at hkk
          ·split at hkk
           ·rename_i hll
            have hll:=Nat.le_of_ble_eq_true hll
            rw[aC] at hll
            simp only[Option.some.injEq,Prod.mk.injEq] at hkk
            obtain ⟨rfl,rfl⟩:=hkk
            have hpre:RepL w I α (l.take (len*i.size)) (cur.toList.take (len*i.size)):=by
             have:=k3.take (len*i.size)
             rwa [List.take_take,Nat.min_eq_left hll] at this
            have hprelen:(l.take (len*i.size)).length=len*i.size:=by simp;omega
            by_cases hle:len+n≤cap
            ·refine inplace hle _ (fun w' rel ev hw'=> ?_)
             have hmul:(len+n)*i.size≤cap*i.size:=Nat.mul_le_mul_right _ hle
             rw[Nat.add_mul] at hmul
             refine ⟨_,ee,hw', ?_, ?_⟩
             ·simp[hcs.1,hvl];omega
             ·have k:=(hpre.ev c.rel ev).append (hcs.ev c.rel ev)
              have e1:((cur.toList.take (len*i.size)++vs++cur.toList.drop (len*i.size+vs.length)).toArray.toList.take (l.take (len*i.size)++cs).length)=cur.toList.take (len*i.size)++vs:=by
               simp only
               rw[←k.1.symm]
               exact List.take_left
              rw[e1];exact k
            ·have hold:∀w',w'.heap=w.heap→(Builtin.firstCells i.size len (.slice (some ⟨b,0,none⟩) len cap)).run P w'= .ok (cur.toList.take (len*i.size)).toArray w':=fun w' hw'=>by
              simp only[Builtin.firstCells]
              have e2:(cur.toList.take (len*i.size)).length=len*i.size:=by simp;omega
              have:=run_loadCells_list (P:=P) w' ⟨b,0,none⟩ (cur.toList.take (len*i.size)) (fun j v hv=>by
               rw[add_lit,xp hw']
               have hj:j<len*i.size:=by
                rcases Nat.lt_or_ge j (len*i.size) with h'|h'
                ·exact h'
                ·rw[List.getElem?_eq_none (by omega)] at hv;cases hv
               rw[List.getElem?_take_of_lt hj] at hv
               simp only[World.cell?,k1,Nat.zero_add]
               simpa using hv)
              rwa [e2] at this
             have hrun:=R.out (sCap:=cap) hold (by omega) hby
             rw[hrun]
             refine Post.of_del (id:=id) (sH (c.del id) rfl (hpre.append hcs) ?_ hzs (grownCap_ge w _ _ _))
             rw[List.length_append,hvl,←hpre.1,hprelen,Nat.add_mul]
           ·simp at hkk
         ·simp at hkk
       ·simp at hk
      ·simp at hk
    ·simp at h
  ·simp at h
 ·simp at h
end
end Go.Proofs.Abs
/- Slicing, conversions, make, copy, clear, len, min, max. -/
namespace Go.Proofs.Abs
open Go
section
variable {P:Program} {G:aF} {call:aI} {w:World} {I:Nat→Prop} {α:Nat→Option Nat} {H:ab} {rid nx:Nat}
theorem sN {x:AV} {x':Value} {n:Nat} (hx:Rep w I α x x') (h:ej x=some n):∃k,x'= .int k n:=by
 unfold ej at h
 split at h
 ·simp at h;subst h;cases hx;exact ⟨_,rfl⟩
 ·simp at h
def nk (w:World) (I:Nat→Prop) (α:Nat→Option Nat):Option AV→Option Value→Prop
 |none,none=>True
 |some a,some v=>Rep w I α a v
 |_,_=>False
theorem sO {s:Tr} {a:Act} (hs:ff w I α s a.tmps) {x:Option Operand} {v:Option AV} (h:em (aS s) x=some v):nk w I α v (x.map a.eval):=by
 cases x with
 |none=>simp[em] at h;subst h;trivial
 |some x=>
  simp only[em,Option.map_eq_some_iff] at h
  obtain ⟨u,h1,rfl⟩:=h
  exact be hs h1
theorem sP {x:Option AV} {x':Option Value} {n:Option Nat} (hx:nk w I α x x') (h:f4 x=some n):
  (n=none∧x'=none)∨∃k m,n=some m∧x'=some (.int k m):=by
 cases x with
 |none=>
  simp[f4] at h;subst h
  cases x' with
  |none=>exact .inl ⟨rfl,rfl⟩
  |some _=>exact hx.elim
 | some a=>
  simp only[f4,Option.map_eq_some_iff] at h
  obtain ⟨m,h1,rfl⟩:=h
  cases x' with
  |none=>exact hx.elim
  |some v=>
   obtain ⟨k,rfl⟩:=sN hx h1
   exact .inr ⟨k,m,rfl,rfl⟩
theorem D3 {k:IntKind} {n y:Nat} {code:BoundsCode} (h:n≤y):(Instr.sliceBound (.int k n) y code).run P w= .ok n w:=by
 have:(0:Int)≤n∧(n:Int)≤y:=by omega
 simp[Instr.sliceBound,asIntOf]
 intro h';omega
theorem nn {lo hi mx:Option Nat} {lo' hi' mx':Option Value} {isSlice:Bool} {len cap:Nat}
  (h1:(lo=none∧lo'=none)∨∃k m,lo=some m∧lo'=some (.int k m)) (h2:(hi=none∧hi'=none)∨∃k m,hi=some m∧hi'=some (.int k m))
  (h3:(mx=none∧mx'=none)∨∃k m,mx=some m∧mx'=some (.int k m))
  (hl:lo.getD 0≤hi.getD len) (hh:hi.getD len≤mx.getD cap) (hm:mx.getD cap≤cap) (hmx:mx.isSome=true→hi.isSome=true):
  (Instr.sliceBounds isSlice len cap lo' hi' mx').run P w= .ok (lo.getD 0,hi.getD len,mx.getD cap) w:=by
 rcases h1 with ⟨rfl,rfl⟩|⟨k1,l,rfl,rfl⟩<;>rcases h2 with ⟨rfl,rfl⟩|⟨k2,h,rfl,rfl⟩<;>rcases h3 with ⟨rfl,rfl⟩|⟨k3,m,rfl,rfl⟩<;>
  simp only[Option.getD_none,Option.getD_some,Option.isSome_some,Option.isSome_none,forall_const,Bool.false_eq_true] at hl hh hm hmx<;>
  simp[Instr.sliceBounds,D3, *]
theorem xx {b o n cap:Nat} (h:n=0) (hc:n≤cap):Rep w I α (.fsl false []) (.slice (some ⟨b,o,none⟩) n cap):=
 .fsl false [] _ _ _ 0 b o (fun _ _=>undef) (by simp[h]) hc (by simp) (.inl rfl) (fun h=>absurd rfl h) (by simp) (by simp) (by simp)
theorem D4 {full f':Bool} {es es':List AV} {x':Value} {l h:Nat} {sz:Nat} (hx:Rep w I α (.fsl full es) x') (hc:r5 es l h=some es') (hlh:l≤h) (hhn:h≤es.length) (hsz:es≠[]→∀e∈es,e.cells.length=sz):
  ∃a len cap,x'= .slice a len cap∧len=es.length∧len≤cap∧(full=true→cap=len)∧
   ∀m,h≤m→m≤cap→(f'=true→m=h)→Rep w I α (.fsl f' es') (.slice (if m=l then a else a.map (·.add (l*sz))) (h-l) (m-l)):=by
 cases hx with
 | fsl _ _ a len cap sz' b base g hl hcap hf ha hI hs hg hr=>
  refine ⟨a,len,cap,rfl,hl.symm,hcap,hf,fun m hm hmc hfm=> ?_⟩
  obtain ⟨e1,e2,_⟩:=jc _ _ _ _ hc
  have hne:es'≠[]→es≠[]:=fun h0 e=>by subst e;simp at e1;exact h0 e1
  have hget:∀i e,es'[i]? =some e→es[l+i]? =some e:=fun i e he=>by
   have hi:i<h-l:=by
    rcases Nat.lt_or_ge i (h-l) with h'|h'
    ·exact h'
    ·rw[List.getElem?_eq_none (by omega)] at he;cases he
   rw[e1,List.getElem?_take_of_lt hi,List.getElem?_drop] at he;exact he
  by_cases h0:es'=[]
  ·subst h0
   have hl0:h-l=0:=by simpa using e2.symm
   obtain ⟨base',hb'⟩:∃base',(if m=l then a else a.map (·.add (l*sz)))=some ⟨b,base',none⟩∨m-l=0:=by
    rcases ha with rfl|h0
    ·by_cases hml:m=l
     ·exact ⟨base,by rw[if_pos hml];exact .inl rfl⟩
     ·exact ⟨base+l*sz,by rw[if_neg hml];exact .inl (by simp[add_lit])⟩
    ·exact ⟨0,.inr (by omega)⟩
   exact .fsl f' [] _ _ _ 0 b base' (fun _ _=>undef) (by simp[hl0]) (by omega) (fun h0=>by have:=hfm h0;omega) hb' (fun h=>absurd rfl h) (by simp) (by simp) (by simp)
  have hml:m≠l:=fun e=>by
   have:es'.length=0:=by rw[e2];omega
   exact h0 (List.eq_nil_of_length_eq_zero this)
  have hsz':sz'=sz:=by
   obtain ⟨x,hx⟩:=List.exists_mem_of_ne_nil es (hne h0)
   rw[←hs x hx,hsz (hne h0) x hx]
  subst hsz'
  refine .fsl f' es' _ _ _ sz' b (base+l*sz') (fun i j=>g (l+i) j) e2 (by omega) (fun h0=>by have:=hfm h0;omega) (.inl (by rw[if_neg hml,nb hl hcap ha (hne h0)];simp[add_lit])) (fun h0=>hI (hne h0)) (fun e he=> ?_) (fun i e j c k1 k2=> ?_) (fun i e j c k1 k2=>hr (l+i) e j c (hget i e k1) k2)
  ·obtain ⟨i,hi⟩:=List.getElem?_of_mem he
   exact hs e (List.mem_of_getElem? (hget i e hi))
  ·have:=hg (l+i) e j c (hget i e k1) k2
   rw[Nat.add_mul] at this
   rw[show base+l*sz'+i*sz'+j=base+(l*sz'+i*sz')+j by omega]
   exact this
theorem xy {mx:Option Nat} {h n cap:Nat} {b:Bool} (hm:(match mx with|some m=>Nat.ble h m&&Nat.ble m n&&b|none=>true)=true) (hn:n≤cap) (hh:h≤cap):
  h≤mx.getD cap∧mx.getD cap≤cap∧(mx.isSome=true→b=true):=by
 cases mx with
 |none=>simpa using hh
 |some m=>
  simp only[Bool.and_eq_true] at hm
  have h1:=Nat.le_of_ble_eq_true hm.1.1
  have h2:=Nat.le_of_ble_eq_true hm.1.2
  exact ⟨by simpa using h1,by simp;omega,fun _=>hm.2⟩
theorem D5 {t:TypeId} {x:AV} {x':Value} {lo hi mx:Option AV} {lo' hi' mx':Option Value} {e:Eff} (c:Ctx P G call w I α H rid nx) (hx:Rep w I α x x')
  (h1:nk w I α lo lo') (h2:nk w I α hi hi') (h3:nk w I α mx mx') (h:gI P t x lo hi mx=some e):
  cy P G call w I α H rid nx (Instr.sliceAt t x' lo' hi' mx') e:=by
 unfold gI at h
 split at h
 ·rename_i lo hi mx k1 k2 k3
  have b1:=sP h1 k1
  have b2:=sP h2 k2
  have b3:=sP h3 k3
  split at h
  ·-- a string
   rename_i s
   unfold r6 at h
   split at h
   ·rename_i ht
    split at h
    ·rename_i hc
     simp only[Bool.and_eq_true] at hc
     have hl:=Nat.le_of_ble_eq_true hc.1.2
     have hh:=Nat.le_of_ble_eq_true hc.2
     rw[aC] at hl hh
     simp only[Option.some.injEq] at h;subst h
     cases hx with
     | str _ bs hbs=>
      have hsz:bs.size=s.length:=by rw[←hbs];exact Array.length_toList.symm
      have hmx:mx=none:=by have:=hc.1.1;cases mx<;>simp at this⊢
      subst hmx
      have hmx':mx'=none:=by
       rcases b3 with ⟨_,h⟩|⟨k,m,h,_⟩
       ·exact h
       ·cases h
      subst hmx'
      have hb:=nn (P:=P) (w:=w) (isSlice:=false) (len:=bs.size) (cap:=bs.size) b1 b2 (.inl ⟨rfl,rfl⟩) (by rw[hsz];exact hl) (by simp;rw[hsz];exact hh) (by simp) (by simp)
      refine bH c (v':= .string (bs.extract (lo.getD 0) (hi.getD bs.size))) ?_ (.str _ _ ?_)
      ·simp[Instr.sliceAt,Instr.slice,aE ht,hb]
      ·rw[ByteArray.data_extract,aC,←hsz]
       simp[List.extract_eq_take_drop,hbs]
    ·simp at h
   ·simp at h
  ·-- frozen elements
   rename_i full es
   unfold r7 at h
   split at h
   ·rename_i el hel
    have ht:=kc hel
    split at h
    ·rename_i sz hsz
     split at h
     ·rename_i hc
      simp only[Bool.and_eq_true] at hc
      have hl:=Nat.le_of_ble_eq_true hc.1.1.2
      have hh:=Nat.le_of_ble_eq_true hc.1.2
      have hhead:=hc.1.1.1
      have hm:=hc.2
      split at h
      ·rename_i es' hes'
       simp only[Option.some.injEq] at h;subst h
       rw[aC] at hl hh hm hes'
       have hall:es≠[]→∀e∈es,e.cells.length=sz:=fun hne=>by
        cases hx with
        | fsl _ _ a len cap sz' b base g hl' hcap hf ha hI hs hg hr=>
         match es,hne with
         | e0::r,_=>
          have h0:e0.cells.length=sz:=by
           simp only[mQ] at hhead;rw[aC] at hhead;exact beq_iff.1 hhead
          have:sz'=sz:=by rw[←h0,hs e0 (by simp)]
          subst this;exact hs
       obtain ⟨a,len,cap,rfl,hlen,hcap,hf,hres⟩:=D4 (f':=mR full mx (hi.getD (ac es)) (ac es)) (sz:=sz) hx hes' hl hh hall
       subst hlen
       obtain ⟨m1,m2,m3⟩:=xy (cap:=cap) hm hcap (by omega)
       have hb:=nn (P:=P) (w:=w) (isSlice:=true) (len:=es.length) (cap:=cap) b1 b2 b3 hl m1 m2 m3
       refine bH c (v':= .slice (if mx.getD cap=lo.getD 0 then a else a.map (·.add (lo.getD 0*sz))) (hi.getD es.length-lo.getD 0) (mx.getD cap-lo.getD 0)) ?_ (hres _ m1 m2 (fun hfm=> ?_))
       ·simp[Instr.sliceAt,Instr.slice,aE ht,hb,cN hsz]
       ·cases mx with
        |none=>
         simp only[mR,Bool.and_eq_true] at hfm
         have:=beq_iff.1 hfm.2
         rw[aC] at this
         simp only[Option.getD_none]
         rw[this,hf hfm.1]
        |some m=>
         simp only[mR] at hfm
         have:=beq_iff.1 hfm
         rw[aC] at this
         simpa using this
      ·simp at h
     ·simp at h
    ·simp at h
   ·simp at h
  ·-- nil
   unfold wY at h
   split at h
   ·rename_i el hel
    have ht:=kc hel
    split at h
    ·rename_i sz hsz
     split at h
     ·rename_i hc
      simp only[Bool.and_eq_true] at hc
      have e1:lo.getD 0=0:=beq_iff.1 hc.1.1.1
      have e2:hi.getD 0=0:=beq_iff.1 hc.1.1.2
      have e3:mx.getD 0=0:=beq_iff.1 hc.1.2
      simp only[Option.some.injEq] at h;subst h
      cases hx
      have hb:=nn (P:=P) (w:=w) (isSlice:=true) (len:=0) (cap:=0) b1 b2 b3 (by omega) (by omega) (by omega) (fun hs=>by
       have:=hc.2;cases mx<;>simp_all)
      refine bH c (v':= .slice none 0 0) ?_ .nilsl
      simp[Instr.sliceAt,Instr.slice,aE ht,hb,cN hsz,e1,e2,e3]
     ·simp at h
    ·simp at h
   ·simp at h
  ·-- a row of the call's own
   rename_i own id off len sz'
   unfold r8 at h
   split at h
   ·rename_i el hel
    have ht:=kc hel
    split at h
    ·rename_i sz hsz
     split at h
     ·rename_i hc
      simp only[Bool.and_eq_true] at hc
      have hs:sz=sz':=beq_iff.1 hc.1.1
      subst hs
      have hl:=Nat.le_of_ble_eq_true hc.1.2
      have hm:=hc.2
      cases hx with
      | rsl _ _ _ _ _ cap b hb hcap ho=>
       have main:hi.getD len≤cap→cy P G call w I α H rid nx (Instr.sliceAt t (.slice (some ⟨b,off,none⟩) len cap) lo' hi' mx') (.val (mS (own&&mx.isNone) id off (lo.getD 0) (hi.getD len) sz)):=fun hhc=>by
        obtain ⟨m1,m2,m3⟩:=xy (cap:=cap) hm hcap hhc
        have hbd:=nn (P:=P) (w:=w) (isSlice:=true) (len:=len) (cap:=cap) b1 b2 b3 hl m1 m2 m3
        refine bH c (v':= .slice (if mx.getD cap=lo.getD 0 then some ⟨b,off,none⟩ else some ⟨b,off+lo.getD 0*sz,none⟩) (hi.getD len-lo.getD 0) (mx.getD cap-lo.getD 0)) ?_ ?_
        ·simp only[Instr.sliceAt,Instr.slice,Sem.run_bind,aE ht,Result.andThen_ok,hbd,cN hsz,Option.map_some,add_lit]
         rfl
        ·have hown:∀o l,(own&&mx.isNone)=true→off+cap*sz=o+l*sz→∃e n,w.shape? b=some (e,n)∧o+l*sz=n:=fun o l ho' hol=>by
          simp only[Bool.and_eq_true] at ho'
          obtain ⟨e0,n0,s1,s2⟩:=ho ho'.1
          exact ⟨e0,n0,s1,by omega⟩
         unfold mS
         split
         ·rename_i h0
          have h0:lo.getD 0=0:=beq_iff.1 h0
          have:(if mx.getD cap=lo.getD 0 then some (⟨b,off,none⟩:Addr) else some ⟨b,off+lo.getD 0*sz,none⟩)=some ⟨b,off,none⟩:=by rw[h0];simp
          rw[this,h0]
          refine .rsl _ id off _ sz _ b hb (by omega) (fun ho'=>hown _ _ ho' ?_)
          simp only[Bool.and_eq_true] at ho'
          have:mx=none:=by cases mx<;>simp_all
          subst this;simp
         ·rename_i h0
          have h0:lo.getD 0≠0:=beq_false_iff.1 h0
          split
          ·rename_i h4
           have h4:lo.getD 0=hi.getD len:=beq_iff.1 h4
           split<;>exact xx (by omega) (by omega)
          ·rename_i h4
           have h4:lo.getD 0≠hi.getD len:=beq_false_iff.1 h4
           rw[if_neg (by omega)]
           refine .rsl _ id _ _ sz _ b hb (by omega) (fun ho'=>hown _ _ ho' ?_)
           simp only[Bool.and_eq_true] at ho'
           have:mx=none:=by cases mx<;>simp_all
           subst this
           simp only[Option.getD_none]
           have hle:lo.getD 0≤cap:=by omega
           have:cap*sz=lo.getD 0*sz+(cap-lo.getD 0)*sz:=by rw[←Nat.add_mul];congr 1;omega
           omega
       split at h
       ·rename_i hh
        have hh:=Nat.le_of_ble_eq_true hh
        simp only[Option.some.injEq] at h;subst h
        exact main (by omega)
       ·split at h
        ·rename_i hown
         simp only[Bool.and_eq_true] at hown
         have hpos:0<sz:=by simpa using hown.2
         simp only[Option.some.injEq] at h;subst h
         refine fJ c fun blk b' e' hg hα hB hk=> ?_
         rw[hb] at hα;cases hα
         split at hk
         ·rename_i cells
          split at hk
          ·rename_i hle
           have hle:=Nat.le_of_ble_eq_true hle
           rw[aC] at hle
           simp only[Option.some.injEq] at hk;subst hk
           obtain ⟨cc,ee,g1,g2,_⟩:=hB
           obtain ⟨e0,n0,s1,s2⟩:=ho hown.1
           have hn:n0=cc.size:=by simp only[World.shape?,g1,Option.some.injEq,Prod.mk.injEq] at s1;exact s1.2.symm
           exact main (Nat.le_of_mul_le_mul_right (show hi.getD len*sz≤cap*sz by omega) hpos)
          ·simp at hk
         ·simp at hk
        ·simp at h
     ·simp at h
    ·simp at h
   ·simp at h
  ·-- an array behind a pointer
   rename_i id off
   unfold wX at h
   split at h
   ·rename_i n el ht
    split at h
    ·rename_i sz hsz
     split at h
     ·rename_i hc
      simp only[Bool.and_eq_true] at hc
      have hl:=Nat.le_of_ble_eq_true hc.1.2
      have hh:=Nat.le_of_ble_eq_true hc.2
      have hmx:mx=none:=by have:=hc.1.1;cases mx<;>simp at this⊢
      subst hmx
      have hmx':mx'=none:=by
       rcases b3 with ⟨_,h⟩|⟨k,m,h,_⟩
       ·exact h
       ·cases h
      subst hmx'
      cases hx with
      | ptr _ _ b hb=>
       have hbd:=nn (P:=P) (w:=w) (isSlice:=false) (len:=n) (cap:=n) b1 b2 (.inl ⟨rfl,rfl⟩) hl (by simpa using hh) (by simp) (by simp)
       simp only[Option.getD_none] at hbd
       have hrun:(Instr.sliceAt t (.pointer (some ⟨b,off,none⟩)) lo' hi' none).run P w= .ok (.slice (some (if n=lo.getD 0 then ⟨b,off,none⟩ else ⟨b,off+lo.getD 0*sz,none⟩)) (hi.getD n-lo.getD 0) (n-lo.getD 0)) w:=by
        simp only[Instr.sliceAt,Sem.run_bind,aE ht,Result.andThen_ok,Instr.sureAddr,Sem.run_pure,hbd,cN hsz,add_lit]
       split at h
       ·rename_i h4
        have h4:lo.getD 0=hi.getD n:=beq_iff.1 h4
        simp only[Option.some.injEq] at h;subst h
        exact bH c hrun (by split<;>exact xx (by omega) (by omega))
       ·rename_i h4
        have h4:lo.getD 0≠hi.getD n:=beq_false_iff.1 h4
        simp only[Option.some.injEq] at h;subst h
        refine bH c hrun ?_
        rw[if_neg (by omega)]
        exact .rsl false id _ _ sz _ b hb (by omega) (by simp)
     ·simp at h
    ·simp at h
   ·simp at h
  ·simp at h
 ·simp at h
end
end Go.Proofs.Abs
/- Conversions, make, copy, clear, len, min, max, maps. -/
namespace Go.Proofs.Abs
open Go
section
variable {P:Program} {G:aF} {call:aI} {w:World} {I:Nat→Prop} {α:Nat→Option Nat} {H:ab} {rid nx:Nat}
theorem sQ:∀ {cs:List AV} {vs:List Value} {s:List UInt8},RepL w I α cs vs→dh cs=some s→∃ns:List Int,vs=ns.map (Value.int .u8)∧s=ns.map fun n=>UInt8.ofNat n.toNat
 |[],vs,s,h,hb=>by
  rw[h.nil_inv]
  simp[dh] at hb;subst hb
  exact ⟨[],rfl,rfl⟩
 | x::t,vs,s,h,hb=>by
  obtain ⟨y,v',rfl,h1,h2⟩:=h.cons_inv
  unfold dh at hb
  split at hb
  ·rename_i heq;cases heq
  ·rename_i n t' heq
   cases heq
   simp only[Option.map_eq_some_iff] at hb
   obtain ⟨s',h3,rfl⟩:=hb
   obtain ⟨ns,rfl,rfl⟩:=sQ h2 h3
   cases h1
   exact ⟨n::ns,rfl,rfl⟩
  ·simp at hb
theorem sR:∀ (ns:List Int) (b:ByteArray),(ns.foldl (fun r n=>r.push (UInt8.ofNat n.toNat)) b).data.toList=b.data.toList++ns.map fun n=>UInt8.ofNat n.toNat
 |[],b=>by simp
 |n::ns,b=>by
  simp only[List.foldl_cons]
  rw[sR ns]
  simp[ByteArray.push]
theorem D6 {es:List AV}:∀ {s:List UInt8},dh es=some s→flat es=es∧(∀e∈es,e.cells.length=1):=by
 induction es with
 |nil=>intro s _;exact ⟨rfl,by simp⟩
 | cons x t ih=>
  intro s h
  unfold dh at h
  split at h
  ·rename_i heq;cases heq
  ·rename_i n t' heq
   cases heq
   simp only[Option.map_eq_some_iff] at h
   obtain ⟨s',h3,rfl⟩:=h
   obtain ⟨h1,h2⟩:=ih h3
   refine ⟨by simp[flat,AV.cells,h1],fun e he=> ?_⟩
   rcases List.mem_cons.1 he with rfl|he
   ·rfl
   ·exact h2 e he
  ·simp at h
theorem xz {sz:Nat}:∀ {l:List AV},(∀a∈l,a.cells.length=sz)→bT sz l=true
 |[],_=>rfl
 |x::t,h=>by
  simp only[bT,Bool.and_eq_true]
  exact ⟨by rw[aC];exact beq_iff.2 (h x (by simp)),xz fun a ha=>h a (by simp[ha])⟩
theorem sS:∀ (s:List UInt8),flat (aj s)=aj s∧(∀e∈aj s,e.cells.length=1)∧(aj s).length=s.length
 |[]=>⟨rfl,by simp[aj],rfl⟩
 |b::t=>by
  obtain ⟨h1,h2,h3⟩:=sS t
  refine ⟨by simp[aj,flat,AV.cells,h1],fun e he=> ?_,by simp[aj,h3]⟩
  simp only[aj,List.mem_cons] at he
  rcases he with rfl|he
  ·rfl
  ·exact h2 e he
theorem sT {e:TypeId} (h:jT P e=true):P.underlying e=some (.int .u8):=by
 unfold jT at h
 split at h
 ·assumption
 ·simp at h
theorem xA (w:World) (b n:Nat) (c:Array Value) (e:TypeId) (hb:w.heap[b]? =some (.cells c e (0,0))):
  ∃fr,(w.freeze ⟨b,n,none⟩ 1).heap[b]? =some (.cells c e fr)∧(w.freeze ⟨b,n,none⟩ 1).heap.size=w.heap.size∧∀k,k≠b→(w.freeze ⟨b,n,none⟩ 1).heap[k]? =w.heap[k]? :=by
 refine ⟨(n,n+1), ?_,by simp[World.freeze],fun k hk=>by simp[World.freeze,Array.getElem?_modify,Ne.symm hk]⟩
 simp[World.freeze,Array.getElem?_modify,hb]
theorem pq {a:AV} (h:a.one=true):a.cells=[a]:=by cases a<;>simp_all [AV.one,AV.cells]
theorem xB:∀ {l:List AV},bu l=true→flat l=l
 |[],_=>rfl
 |a::t,h=>by
  simp only[bu,Bool.and_eq_true] at h
  simp only[flat,pq h.1,xB h.2]
  rfl
theorem D7 {src dst:TypeId} {x:AV} {x':Value} {e:Eff} (c:Ctx P G call w I α H rid nx) (hx:Rep w I α x x') (h:ei P src dst x=some e):
  cy P G call w I α H rid nx (convert src dst x') e:=by
 unfold ei at h
 split at h
 ·rename_i d k k' n hs hd
  simp only[Option.some.injEq] at h;subst h
  cases hx
  exact bH c (by simp[convert,aE hs,aE hd,Conv.intToInt,hJ]) (.int _ _)
 ·rename_i d s hs hd
  simp only[Option.some.injEq] at h;subst h
  cases hx with
  |str _ b hb=>exact bH c (by simp[convert,aE hs,aE hd]) (.str _ b hb)
 ·rename_i d e0 s hs hd
  split at h
  ·rename_i hbt
   have hu:=sT hbt
   simp only[Option.some.injEq] at h;subst h
   cases hx with
   | str _ b hb=>
    have hsz:b.size=s.length:=by rw[←hb];exact Array.length_toList.symm
    obtain ⟨cap,hcapd⟩:∃cap,cap=(Question.appendCap b.size 0 e0).cut (w.tape w.drawn (.appendCap b.size 0 e0)):=⟨_,rfl⟩
    obtain ⟨cells,hcells⟩:∃cells:Array Value,cells=(b.data.map fun b=>Value.int .u8 b.toNat)++Array.replicate (cap-b.size) (.int .u8 0):=⟨_,rfl⟩
    have hcap:b.size≤cap:=by rw[hcapd];exact grownCap_ge w b.size 0 e0
    have hcs:cells.size=cap:=by
     rw[hcells]
     simp only[Array.size_append,Array.size_map,Array.size_replicate]
     have:b.data.size=b.size:=rfl
     omega
    have hpush:(w.drew.alloc (.cells cells e0)).heap=w.heap.push (.cells cells e0):=rfl
    have hnew:(w.drew.alloc (.cells cells e0)).heap[w.heap.size]? =some (.cells cells e0):=by rw[hpush];simp
    obtain ⟨fr,f1,f2,f3⟩:=xA (w.drew.alloc (.cells cells e0)) w.heap.size cap cells e0 hnew
    have hheap:((w.drew.alloc (.cells cells e0)).freeze ⟨w.heap.size,cap,none⟩ 1).heap=w.heap.push (.cells cells e0 fr):=by
     apply Array.ext_getElem?
     intro k
     by_cases hk:k=w.heap.size
     ·subst hk;rw[f1];simp
     ·rw[f3 k hk,Array.getElem?_push,if_neg hk,hpush,Array.getElem?_push,if_neg hk]
    have hms:(markStringish ⟨w.heap.size,0,none⟩).run P (w.drew.alloc (.cells cells e0))= .ok () ((w.drew.alloc (.cells cells e0)).freeze ⟨w.heap.size,cap,none⟩ 1):=by
     have hsh:(w.drew.alloc (.cells cells e0)).shape? w.heap.size=some (e0,cap):=by
      simp only[World.shape?,hnew,hcs]
     simp[markStringish,hsh]
    have hrun:(convert src dst (.string b)).run P w= .ok (.slice (some ⟨w.heap.size,0,none⟩) b.size cap) ((w.drew.alloc (.cells cells e0)).freeze ⟨w.heap.size,cap,none⟩ 1):=by
     simp[convert,aE hs,aE hd,aE hu,Conv.stringToBytes,Question.forced,newRow,←hcapd,←hcells,hms]
    refine sy c (by rw[hrun];rfl) hheap (fun I' _ hI rel ev=> ?_)
    have hfl:flat (aj s)=aj s∧(∀e∈aj s,e.cells.length=1)∧(aj s).length=s.length:=sS s
    have hb':b.size=(aj s).length:=by rw[hfl.2.2,hsz]
    rw[hb']
    refine lz (sz:=1) hI hfl.2.1 (by omega) (by simp) ?_
    rw[hfl.1]
    intro j x hx
    have hr:=sF (w:=(w.drew.alloc (.cells cells e0)).freeze ⟨w.heap.size,cap,none⟩ 1) (I:=I') (α:=α) s
    obtain ⟨y,h1,h2⟩:=hr.get hx
    refine ⟨y, ?_,h2⟩
    rw[Nat.zero_add]
    simp only[World.cell?,f1,Option.isSome_none,Bool.false_eq_true,if_false]
    have hj:j<s.length:=by
     rcases Nat.lt_or_ge j s.length with h'|h'
     ·exact h'
     ·rw[List.getElem?_eq_none (by simpa using h')] at h1;cases h1
    rw[hcells,Array.getElem?_append_left (by simp only[Array.size_map];have:b.data.size=b.size:=rfl;omega),←h1,←hb]
    simp
  ·simp at h
 ·rename_i e1 e0 hs hd
  split at h
  ·rename_i hc
   simp only[Bool.and_eq_true,decide_eq_true_eq] at hc
   obtain ⟨hc1,hc2⟩:=hc
   subst hc1
   have hu:=sT hc2
   unfold wW at h
   split at h
   ·rename_i id len
    simp only[Option.some.injEq] at h;subst h
    cases hx with
    | rsl _ _ _ _ _ cap b hb hcap ho=>
     obtain ⟨et,n,hshape,hcapn⟩:=ho rfl
     refine Dr c fun blk b' v hg hα hB hk=> ?_
     rw[hb] at hα;cases hα
     split at hk
     ·rename_i l
      split at hk
      ·rename_i cs hcs
       split at hk
       ·rename_i hone
        simp only[Option.some.injEq] at hk;subst hk
        have row:=hB.row
        obtain ⟨cur,ee,k1,k2,k3⟩:=hB
        obtain ⟨fr,f1,f2,f3⟩:=xA w b n cur ee k1
        obtain ⟨q1,q2,q3⟩:=jc _ _ _ _ hcs
        have hms:(markStringish ⟨b,0,none⟩).run P w= .ok () (w.freeze ⟨b,n,none⟩ 1):=by
         simp[markStringish,hshape]
        have hrun:(convert src src (.slice (some ⟨b,0,none⟩) len cap)).run P w= .ok (.slice (some ⟨b,0,none⟩) len cap) (w.freeze ⟨b,n,none⟩ 1):=by
         simp[convert,aE hs,aE hu,hms]
        have hcell:∀o,(w.freeze ⟨b,n,none⟩ 1).cell? ⟨b,o,none⟩=w.cell? ⟨b,o,none⟩:=fun o=>by
         simp[World.cell?,f1,k1]
        rw[hrun]
        refine Dq c hg hb f2 f3 (by simp[World.shape?,f1,k1]) (fun I' hI hIb ev=> ?_)
        rw[←q2]
        refine lz (sz:=1) hIb (fun a ha=>by rw[pq (pn hone a ha)];rfl) (by rw[q2];exact hcap) (by simp) ?_
        rw[xB hone]
        intro j x hx
        have hj:l[j]? =some x:=by
         rw[q1] at hx
         have hlt:j<len:=by
          rcases Nat.lt_or_ge j len with h'|h'
          ·exact h'
          ·rw[List.getElem?_eq_none (by simp;omega)] at hx;cases hx
         rw[List.getElem?_take_of_lt hlt] at hx
         simpa using hx
        obtain ⟨y,r1,r2⟩:=row j x hj
        exact ⟨y,by rw[hcell];exact r1,r2.ev c.rel ev⟩
       ·simp at hk
      ·simp at hk
     ·simp at hk
   ·simp at h
  ·simp at h
 ·rename_i e0 hs hd hns
  clear hns
  split at h
  ·rename_i hbt
   have hu:=sT hbt
   have conv:∀a l cp,x'= .slice a l cp→(convert src dst x').run P w=(Conv.bytesToString x').run P w:=fun a l cp he=>by
    rw[he];exact run_convert_bytes_string w src dst e0 a l cp hs hu hd
   unfold oU at h
   split at h
   ·rename_i full es
    cases hbo:dh es with
    |none=>simp[hbo,iZ] at h
    | some s=>
     simp only[hbo,iZ,Option.some.injEq] at h;subst h
     obtain ⟨hfl,hone⟩:=D6 hbo
     obtain ⟨a,cap,vs,rfl,_,_,h1,h2,h3⟩:=fsl_flat (P:=P) hx (xz hone)
     rw[hfl] at h1
     obtain ⟨ns,rfl,rfl⟩:=sQ h1 hbo
     have hf:=h3 es.length w (Nat.le_refl _) rfl
     refine bH c (v':= .string (ns.foldl (fun r n=>r.push (UInt8.ofNat n.toNat)) ByteArray.empty)) ?_ (.str _ _ (by rw[sR];rfl))
     rw[conv _ _ _ rfl]
     cases a with
     | none=>
      simp only[Builtin.firstCells,Sem.run_pure,Result.ok.injEq,and_true] at hf
      have:ns=[]:=by
       have hl:=congrArg Array.size hf
       simp at hl h2
       have:ns.length=0:=by omega
       exact List.eq_nil_of_length_eq_zero this
      subst this
      simp[Conv.bytesToString]
     |some a=>
      simp only[Builtin.firstCells,Nat.mul_one] at hf
      refine run_bytesToString w a es.length cap ns ?_
      rw[hf]
      congr 2
      rw[List.take_of_length_le (by rw[h2];omega)]
   ·simp only[Option.some.injEq] at h;subst h
    cases hx
    refine bH c (v':= .string .empty) ?_ (.str _ _ rfl)
    rw[conv _ _ _ rfl]
    simp[Conv.bytesToString]
   ·rename_i own id off len sz
    simp only[Option.some.injEq] at h;subst h
    cases hx with
    | rsl _ _ _ _ _ cap b hb hcap ho=>
     refine fJ c fun blk b' e' hg hα hB hk=> ?_
     rw[hb] at hα;cases hα
     split at hk
     ·rename_i l
      split at hk
      ·rename_i cs hcs
       cases hbo:dh cs with
       |none=>simp[hbo,iZ] at hk
       |some s=>
        simp only[hbo,iZ,Option.some.injEq] at hk;subst hk
        obtain ⟨vs,h1,h2,h3⟩:=hB.row.chunk (P:=P) hcs
        obtain ⟨ns,rfl,rfl⟩:=sQ h3 hbo
        rw[Nat.zero_add] at h2
        refine bH c (v':= .string (ns.foldl (fun r n=>r.push (UInt8.ofNat n.toNat)) ByteArray.empty)) ?_ (.str _ _ (by rw[sR];rfl))
        rw[conv _ _ _ rfl]
        exact run_bytesToString w _ len cap ns h2
      ·simp at hk
     ·simp at hk
   ·simp at h
  ·simp at h
 ·simp at h
theorem D8 {t:TypeId} {l k:AV} {l' k':Value} {e:Eff} (c:Ctx P G call w I α H rid nx) (hl:Rep w I α l l') (hk:Rep w I α k k') (h:mP P t l k=some e):
  cy P G call w I α H rid nx (Instr.makeSlice t l' k') e:=by
 unfold mP at h
 split at h
 ·rename_i el n m he h1 h2
  have ht:=kc he
  obtain ⟨k1,rfl⟩:=sN hl h1
  obtain ⟨k2,rfl⟩:=sN hk h2
  split at h
  ·rename_i i z hi hz
   split at h
   ·rename_i hc
    simp only[Bool.and_eq_true] at hc
    have c1:=Nat.le_of_ble_eq_true hc.1.1.1.1
    have c2:=Nat.le_of_ble_eq_true hc.1.1.1.2
    have c3:=Nat.le_of_ble_eq_true hc.1.1.2
    have c4:z.cells.length=i.size:=by have:=hc.1.2;rw[aC] at this;exact beq_iff.1 this
    have c5:0<i.size:=by simpa using hc.2
    simp only[Option.some.injEq] at h;subst h
    obtain ⟨i',zv,g1,g2,g3⟩:=gb hz
    rw[hi] at g1;cases g1
    have hzr:RepL w I α z.cells zv.cells.toList:=(fc g3).cells
    have w1:IntKind.i64.wrap (n:Int)=n:=IntWalk.i64_in _ ⟨by omega,by omega⟩
    have w2:IntKind.i64.wrap (m:Int)=m:=IntWalk.i64_in _ ⟨by omega,by omega⟩
    obtain ⟨cells,hcells⟩:∃cells:Array Value,cells=(Array.range (m*i.size)).map (zv.cells[· %zv.cells.size]!):=⟨_,rfl⟩
    have hrun:(Instr.makeSlice t (.int k1 n) (.int k2 m)).run P w= .ok (.slice (some ⟨w.heap.size,0,none⟩) n m) (w.alloc (.cells cells el)):=by
     have e1:¬ ((i.bytes:Int)*(m:Int)>2^48):=by
      have:(i.bytes:Int)*(m:Int)=((i.bytes*m:Nat):Int):=by simp
      rw[this];omega
     have e2:¬ ((m:Int)<0):=by omega
     have e3:¬ ((n:Int)<0):=by omega
     have e4:¬ ((n:Int)>(m:Int)):=by omega
     have e5:((decide ((m:Int)<0)||decide ((i.bytes:Int)*(m:Int)>2^48))||decide ((n:Int)<0)||decide ((n:Int)>(m:Int)))=false:=by
      simp only[decide_eq_false e1,decide_eq_false e2,decide_eq_false e3,decide_eq_false e4,Bool.or_self]
     by_cases h0:m*i.size=0
     ·have r0:Array.range 0= #[]:=rfl
      have hc0:cells= #[]:=by rw[hcells,h0,r0];simp
      rw[hc0]
      simp only[Instr.makeSlice,Sem.run_bind,aE ht,Result.andThen_ok,asInt,asIntOf,Sem.run_pure,fe hi,w1,w2,e5,Bool.false_eq_true,if_false,run_askRoom,sizeOf,Int.toNat_natCast,h0,if_true,newRow,run_newObj,r0,Array.map_empty]
      rfl
     ·simp only[Instr.makeSlice,Sem.run_bind,aE ht,Result.andThen_ok,asInt,asIntOf,Sem.run_pure,fe hi,w1,w2,e5,Bool.false_eq_true,if_false,run_askRoom,sizeOf,Int.toNat_natCast,h0,if_false,newRow,run_newObj,gg hi g2,←hcells]
      rfl
    refine ng c (w':=w.alloc (.cells cells el)) (by rw[hrun];rfl) rfl (fun α' hα rel=> ?_) (fun α' hα=> .rsl true rid 0 n i.size m _ hα c1 (fun _=>⟨el,m*i.size, ?_,by omega⟩))
    ·have ev:Ev w I α H (w.alloc (.cells cells el)) I α H:=gN rfl I (fun _ h=>h) (fun _ h=> .inl h)
     have hzz:=(nj (n:=m) c5 hzr c4)
     rw[←hcells] at hzz
     refine sC (c:=cells) (e:=el) (by show (w.heap.push (.cells cells el))[w.heap.size]? =_;simp) ?_
     have:=hzz.ev c.rel ev
     exact ⟨this.1,fun i a b h1 h2=>(this.2 i a b h1 h2).mono (fun _ h=>h) hα (fun _ _ _=>rfl) (fun _ _ _=>rfl)⟩
    ·have:(w.alloc (.cells cells el)).heap[w.heap.size]? =some (.cells cells el):=by show (w.heap.push (.cells cells el))[w.heap.size]? =_;simp
     simp only[World.shape?,this]
     rw[hcells];simp
   ·simp at h
  ·simp at h
 ·simp at h
theorem D9 {argTypes:Array TypeId} {ty:TypeId} {x:AV} {x':Value} {e:Eff} (c:Ctx P G call w I α H rid nx) (hx:Rep w I α x x') (h:g7 P argTypes x=some e):
  cy P G call w I α H rid nx (Builtin.len_ argTypes ty #[x']) e:=by
 unfold g7 at h
 split at h
 ·rename_i t h0
  split at h
  ·rename_i s ht
   simp only[Option.some.injEq] at h;subst h
   cases hx with
   |str _ b hb=>
    have hsz:b.size=s.length:=by rw[←hb];exact Array.length_toList.symm
    refine bH c (v':=goInt b.size) (by simp[Builtin.len_,h0,aE ht]) ?_
    rw[hsz,aC];exact .int _ _
  ·rename_i n _ ht
   simp only[Option.some.injEq] at h;subst h
   exact bH c (v':=goInt n) (by simp[Builtin.len_,h0,aE ht]) (.int _ _)
  ·rename_i full es ht
   simp only[Option.some.injEq] at h;subst h
   cases hx with
   |fsl _ _ a len cap sz b base g hl hc hf ha hI hs hg hr=>
    refine bH c (v':=goInt len) (by simp[Builtin.len_,h0,aE ht]) ?_
    rw[←hl,aC];exact .int _ _
  ·rename_i ht
   simp only[Option.some.injEq] at h;subst h
   cases hx
   exact bH c (v':=goInt 0) (by simp[Builtin.len_,h0,aE ht]) (.int _ _)
  ·rename_i ht
   simp only[Option.some.injEq] at h;subst h
   cases hx
   exact bH c (by simp[Builtin.len_,h0,aE ht];rfl) (.int _ _)
  ·rename_i ht
   simp only[Option.some.injEq] at h;subst h
   cases hx
   exact bH c (v':=goInt 0) (by simp[Builtin.len_,h0,aE ht]) (.int _ _)
  ·rename_i id ht
   simp only[Option.some.injEq] at h;subst h
   cases hx with
   | map _ b hb=>
    refine fJ c fun blk b' e' hg hα hB hk=> ?_
    rw[hb] at hα;cases hα
    split at hk
    ·rename_i es
     simp only[Option.some.injEq] at hk;subst hk
     obtain ⟨en,g1,g2,_,_⟩:=hB
     refine bH c (v':=goInt en.size) ?_ ?_
     ·simp[Builtin.len_,h0,aE ht,getObj,Sem.run,g1]
     ·rw[←g2,aC];exact .int _ _
    ·simp at hk
  ·simp at h
 ·simp at h
theorem Ea {argTypes:Array TypeId} {ty:TypeId} {d x:AV} {d' x':Value} {e:Eff} (c:Ctx P G call w I α H rid nx) (hd:Rep w I α d d') (hx:Rep w I α x x') (h:jY P argTypes d x=some e):
  cy P G call w I α H rid nx (Builtin.copy_ argTypes ty #[d',x']) e:=by
 unfold jY at h
 split at h
 ·rename_i t h0
  split at h
  ·rename_i el hel
   have ht:=kc hel
   split at h
   ·rename_i sz hsz
    split at h
    ·rename_i own id off len sz'
     cases hd with
     | rsl _ _ _ _ _ cap b hb hcap ho=>
      refine po c hx h fun n cs vs e' hk hcs hvl hlen hfirst=> ?_
      simp only at hk
      split at hk
      ·rename_i hone
       simp only[Option.some.injEq] at hk;subst hk
       refine lx c fun blk b' blk' v hg hα hB hk=> ?_
       rw[hb] at hα;cases hα
       split at hk
       ·rename_i l
        split at hk
        ·rename_i l' hl'
         simp only[Option.some.injEq,Prod.mk.injEq] at hk
         obtain ⟨rfl,rfl⟩:=hk
         obtain ⟨cc,ee,g1,g2,g3⟩:=hB
         have hf:=hfirst (min n len) w (Nat.min_le_left _ _) rfl
         have hcs':RepL w I α (cs.take (min n len*sz)) (vs.take (min n len*sz)):=hcs.take _
         have hone':∀u∈vs.take (min n len*sz),u.oneCell'=true:=fun u hu=>hcs.one hone u (List.mem_of_mem_take hu)
         have hvlen:(vs.take (min n len*sz)).length=(cs.take (min n len*sz)).length:=hcs'.1.symm
         obtain ⟨_,e2⟩:=ga _ _ _ _ hl'
         by_cases hz:cs.take (min n len*sz)=[]
         ·have hvz:vs.take (min n len*sz)=[]:=by have:=hcs'.1;rw[hz] at this;exact List.eq_nil_of_length_eq_zero (by simpa using this.symm)
          have hll:l'=l:=by obtain ⟨e1,_⟩:=ga _ _ _ _ hl';rw[e1,hz];simp
          subst hll
          have hrun:(Builtin.copy_ argTypes ty #[.slice (some ⟨b,off,none⟩) len cap,x']).run P w= .ok (goInt (min n len:Nat)) w:=by
           simp only[hvz] at hf
           have hf':(Builtin.firstCells sz (n.min len) x').run P w= .ok #[] w:=hf
           simp[Builtin.copy_,h0,aE ht,hlen,cN hsz,hf',storeCells]
          rw[hrun]
          exact kb (w':=w) c hg hb rfl (fun _ _=>rfl) rfl (fun _ _=>⟨cc,ee,g1,g2,g3⟩) (fun _ _=> .int _ _)
         ·have hfit:off+(vs.take (min n len*sz)).length≤cc.size:=by
           rcases e2 with e2|e2
           ·exact absurd e2 hz
           ·rw[hvlen];omega
          have hst:=run_storeCells_at P b off ee (vs.take (min n len*sz)) 0 cc w g1 (by simpa using hfit) hone'
          simp only[Nat.add_zero] at hst
          have hrun:(Builtin.copy_ argTypes ty #[.slice (some ⟨b,off,none⟩) len cap,x']).run P w= .ok (goInt (min n len:Nat)) (w.setRow b (cc.toList.take off++vs.take (min n len*sz)++cc.toList.drop (off+(vs.take (min n len*sz)).length)).toArray):=by
           have hf':(Builtin.firstCells sz (n.min len) x').run P w= .ok (vs.take (min n len*sz)).toArray w:=hf
           simp only[Builtin.copy_,h0,List.getElem?_toArray,List.getElem?_cons_zero,List.getElem?_cons_succ,Sem.run_bind,aE ht,Result.andThen_ok,hlen,cN hsz,hf',hst,Sem.run_pure]
          rw[hrun]
          exact sE c hg hb g1 g2 g3 hl' hcs' hfit (fun _ _ _=> .int _ _)
        ·simp at hk
       ·simp at hk
      ·simp at hk
    ·cases hd
     refine po c hx h fun n cs vs e' hk hcs hvl hlen hfirst=> ?_
     simp only[Option.some.injEq] at hk;subst hk
     have hf:=hfirst 0 w (Nat.zero_le _) rfl
     refine bH c (v':=goInt 0) ?_ (.int _ _)
     have hf':(Builtin.firstCells sz 0 x').run P w= .ok #[] w:=by simpa using hf
     simp[Builtin.copy_,h0,aE ht,hlen,cN hsz,hf']
    ·obtain ⟨a,cap,hd'⟩:∃a cap,d'= .slice a 0 cap:=by
      cases hd with
      |fsl _ _ a len cap sz b base g hl hc hf ha hI hs hg hr=>simp at hl;subst hl;exact ⟨a,cap,rfl⟩
     subst hd'
     refine po c hx h fun n cs vs e' hk hcs hvl hlen hfirst=> ?_
     simp only[Option.some.injEq] at hk;subst hk
     have hf:=hfirst 0 w (Nat.zero_le _) rfl
     refine bH c (v':=goInt 0) ?_ (.int _ _)
     have hf':(Builtin.firstCells sz 0 x').run P w= .ok #[] w:=by simpa using hf
     cases a<;>simp[Builtin.copy_,h0,aE ht,hlen,cN hsz,hf',storeCells]
    ·simp at h
   ·simp at h
  ·simp at h
 ·simp at h
end
end Go.Proofs.Abs
/- clear, min, max, maps; calls. -/
namespace Go.Proofs.Abs
open Go
section
variable {P:Program} {G:aF} {call:aI} {w:World} {I:Nat→Prop} {α:Nat→Option Nat} {H:ab} {rid nx:Nat}
theorem Eb {argTypes:Array TypeId} {ty:TypeId} {x:AV} {x':Value} {e:Eff} (c:Ctx P G call w I α H rid nx) (hx:Rep w I α x x') (h:sc P argTypes x=some e):
    cy P G call w I α H rid nx (Builtin.clear_ argTypes ty #[x']) e:=by
  unfold sc at h
  split at h
  · rename_i t h0
    split at h
    · rename_i el ht
      split at h
      · rename_i sz z hsz hz
        split at h
        · rename_i hc
          simp only[Bool.and_eq_true] at hc
          have hzl:z.cells.length=sz:=by have:=hc.1.1;rw[aC] at this;exact beq_iff.1 this
          have hone:=hc.1.2
          have hpos:0<sz:=by simpa using hc.2
          split at h
          · simp only[Option.some.injEq] at h;subst h
            cases hx
            exact bH c (v':= .tuple #[]) (by simp[Builtin.clear_,h0,aE ht]) (Rep.tuple_iff.2 ⟨_,rfl,.nil⟩)
          · simp only[Option.some.injEq] at h;subst h
            obtain ⟨a,cap,rfl⟩:∃a cap,x'= .slice a 0 cap:=by
              cases hx with
              |fsl _ _ a len cap sz b base g hl hc hf ha hI hs hg hr=>simp at hl;subst hl;exact ⟨a,cap,rfl⟩
            cases a<;>exact bH c (v':= .tuple #[]) (by simp[Builtin.clear_,h0,aE ht]) (Rep.tuple_iff.2 ⟨_,rfl,.nil⟩)
          · rename_i own id off len sz'
            simp only[Option.some.injEq] at h;subst h
            cases hx with
            | rsl _ _ _ _ _ cap b hb hcap ho=>
              refine lx c fun blk b' blk' v hg hα hB hk=> ?_
              rw[hb] at hα;cases hα
              split at hk
              · rename_i l
                simp only[Option.map_eq_some_iff,Prod.mk.injEq] at hk
                obtain ⟨l',hl',rfl,rfl⟩:=hk
                obtain ⟨cc,ee,g1,g2,g3⟩:=hB
                rcases Nat.eq_zero_or_pos len with h00|hlpos
                · subst h00
                  have hll:l'=l:=by obtain ⟨e1,_⟩:=ga _ _ _ _ hl';rw[e1];simp[bV,flat]
                  subst hll
                  have hrun:(Builtin.clear_ argTypes ty #[.slice (some ⟨b,off,none⟩) 0 cap]).run P w= .ok (.tuple #[]) w:=by
                    simp[Builtin.clear_,h0,aE ht]
                  rw[hrun]
                  exact kb (w':=w) c hg hb rfl (fun _ _=>rfl) rfl (fun _ _=>⟨cc,ee,g1,g2,g3⟩) (fun _ _=>Rep.tuple_iff.2 ⟨_,rfl,.nil⟩)
                · obtain ⟨i,zv,k1,k2,k3⟩:=gb hz
                  have hzr:RepL w I α z.cells zv.cells.toList:=(fc k3).cells
                  have hzz:=nj (n:=len) hpos hzr hzl
                  have hzvs:zv.cells.size=sz:=by rw[←hzl,hzr.1];simp
                  have hze:Builtin.zeroCells zv.cells len=(Array.range (len*sz)).map (zv.cells[· %zv.cells.size]!):=by simp[Builtin.zeroCells,hzvs]
                  rw[←hze] at hzz
                  have hlen:(Builtin.zeroCells zv.cells len).toList.length=len*sz:=by simp[sG,hzvs]
                  obtain ⟨_,e2⟩:=ga _ _ _ _ hl'
                  have hfl:(flat (bV z len)).length=len*sz:=by rw[hzz.1,hlen]
                  have hfit:off+(Builtin.zeroCells zv.cells len).toList.length≤cc.size:=by
                    rcases e2 with e2|e2
                    · rw[e2] at hfl;simp at hfl;have:=Nat.mul_pos hlpos hpos;omega
                    · rw[hlen];omega
                  have hone':∀u∈(Builtin.zeroCells zv.cells len).toList,u.oneCell'=true:=hzz.one (allOne_flat hone)
                  have hst:=run_storeCells_at P b off ee (Builtin.zeroCells zv.cells len).toList 0 cc w g1 (by simpa using hfit) hone'
                  simp only[Nat.add_zero] at hst
                  have hrun:(Builtin.clear_ argTypes ty #[.slice (some ⟨b,off,none⟩) len cap]).run P w= .ok (.tuple #[]) (w.setRow b (cc.toList.take off++(Builtin.zeroCells zv.cells len).toList++cc.toList.drop (off+(Builtin.zeroCells zv.cells len).toList.length)).toArray):=by
                    obtain ⟨m,rfl⟩:∃m,len=m+1:=⟨len-1,by omega⟩
                    simp[Builtin.clear_,h0,aE ht,gg k1 k2,hst]
                  rw[hrun]
                  exact sE c hg hb g1 g2 g3 hl' hzz hfit (fun _ _ _=>Rep.tuple_iff.2 ⟨_,rfl,.nil⟩)
              · simp at hk
          · simp at h
        · simp at h
      · simp at h
    · simp at h
  · simp at h
 where
  allOne_append:∀ {a b:List AV},bu a=true→bu b=true→bu (a++b)=true
    |[],_,_,h=>h
    | x::t,b,h1,h2=>by
      simp only[bu,Bool.and_eq_true,List.cons_append] at h1⊢
      exact ⟨h1.1,allOne_append h1.2 h2⟩
  allOne_flat {z:AV} (h:bu z.cells=true):∀ {n:Nat},bu (flat (bV z n))=true
    |0=>rfl
    | n+1=>by
      simp only[bV,flat]
      exact allOne_append h (allOne_flat h)
theorem xC:∀ (t:List AV) (t':List Value) (x:AV) (x':Value) (v:AV),RepL w I α t t'→Rep w I α x x'→
  t.foldlM (fun x y=>match x,y with
   | .int k a,.int _ b=>some (.int k (if au b a then b else a))
   |_,_=>none) x=some v→∃v',(t'.foldlM Builtin.min2 x').run P w= .ok v' w∧Rep w I α v v'
 |[],t',x,x',v,ht,hx,h=>by
  rw[ht.nil_inv]
  simp at h;subst h
  exact ⟨x',by simp,hx⟩
 |y::t,t',x,x',v,ht,hx,h=>by
  obtain ⟨y',t'',rfl,hy,ht'⟩:=ht.cons_inv
  simp only[List.foldlM_cons,Option.bind_eq_bind] at h
  cases x<;>try (simp at h;done)
  rename_i k a
  cases y<;>try (simp at h;done)
  rename_i k2 b
  simp only[Option.bind_some] at h
  cases hx;cases hy
  obtain ⟨v',h1,h2⟩:=xC t t'' _ (.int k (if au b a then b else a)) v ht' (.int _ _) h
  refine ⟨v', ?_,h2⟩
  simp only[List.foldlM_cons,Builtin.min2,Sem.run_bind,Sem.run_pure,Result.andThen_ok]
  rw[gO] at h1
  simpa using h1
theorem Ec {l:List AV} {l':List Value} {v:AV} {at':Array TypeId} {ty:TypeId} (hl:RepL w I α l l') (h:sg l=some v):
  ∃v',(Builtin.min_ at' ty l'.toArray).run P w= .ok v' w∧Rep w I α v v':=by
 cases l with
 |nil=>simp[sg] at h
 |cons x t=>
  obtain ⟨x',t',rfl,hx,ht⟩:=hl.cons_inv
  exact xC t t' x x' v ht hx h
theorem xD:∀ (t:List AV) (t':List Value) (x:AV) (x':Value) (v:AV),RepL w I α t t'→Rep w I α x x'→
  t.foldlM (fun x y=>match x,y with
   | .int k a,.int _ b=>some (.int k (if au a b then b else a))
   |_,_=>none) x=some v→∃v',(t'.foldlM Builtin.max2 x').run P w= .ok v' w∧Rep w I α v v'
 |[],t',x,x',v,ht,hx,h=>by
  rw[ht.nil_inv]
  simp at h;subst h
  exact ⟨x',by simp,hx⟩
 |y::t,t',x,x',v,ht,hx,h=>by
  obtain ⟨y',t'',rfl,hy,ht'⟩:=ht.cons_inv
  simp only[List.foldlM_cons,Option.bind_eq_bind] at h
  cases x<;>try (simp at h;done)
  rename_i k a
  cases y<;>try (simp at h;done)
  rename_i k2 b
  simp only[Option.bind_some] at h
  cases hx;cases hy
  obtain ⟨v',h1,h2⟩:=xD t t'' _ (.int k (if au a b then b else a)) v ht' (.int _ _) h
  refine ⟨v', ?_,h2⟩
  simp only[List.foldlM_cons,Builtin.max2,Sem.run_bind,Sem.run_pure,Result.andThen_ok]
  rw[gO] at h1
  simpa using h1
theorem Ed {l:List AV} {l':List Value} {v:AV} {at':Array TypeId} {ty:TypeId} (hl:RepL w I α l l') (h:sk l=some v):
  ∃v',(Builtin.max_ at' ty l'.toArray).run P w= .ok v' w∧Rep w I α v v':=by
 cases l with
 |nil=>simp[sk] at h
 |cons x t=>
  obtain ⟨x',t',rfl,hx,ht⟩:=hl.cons_inv
  exact xD t t' x x' v ht hx h
theorem sU {kt:TypeId} {k:AV} (h:g8 P kt k=true):∃kd,P.underlying kt=some kd∧fG kd k=true:=by
 unfold g8 at h
 split at h
 ·rename_i kd hk;exact ⟨kd,hk,h⟩
 ·simp at h
theorem ke {kd:TypeDesc} {k x:AV} {k' x':Value} {b:Bool} (hkd:fG kd k=true) (hk:Rep w I α k k') (hx:Rep w I α x x') (h:mX k x=some b):Instr.sameNow kd k' x'=some b:=by
 unfold mX at h
 split at h
 ·cases hk with
  | str _ s hs=>cases hx with
   |str _ s' hs'=>
    simp only[Option.some.injEq] at h;subst h
    cases kd<;>simp[fG] at hkd
    simp only[Instr.sameNow]
    rw[beq_toListBytes,ByteArray.toList_eq,ByteArray.toList_eq,hs,hs',ly]
 ·split at h
  ·rename_i e;subst e
   cases hk;cases hx
   simp only[Option.some.injEq] at h;subst h
   cases kd<;>simp[fG] at hkd
   simp[Instr.sameNow,hU]
  ·simp at h
 ·simp at h
def sV (w:World) (I:Nat→Prop) (α:Nat→Option Nat) (x:AV × AV) (y:MapEntry):Prop:=Rep w I α x.1 y.key∧Rep w I α x.2 y.val
def RepM (w:World) (I:Nat→Prop) (α:Nat→Option Nat) (es:List (AV × AV)) (en:List MapEntry):Prop:=
 es.length=en.length∧∀ (i:Nat) x y,es[i]? =some x→en[i]? =some y→sV w I α x y
theorem RepM.cons_inv {x:AV × AV} {es:List (AV × AV)} {en:List MapEntry} (h:RepM w I α (x::es) en):∃y en',en=y::en'∧sV w I α x y∧RepM w I α es en':=by
 match en,h with
 |[],h=>simp[RepM] at h
 |y::en',h=>exact ⟨y,en',rfl,h.2 0 _ _ rfl rfl,by have:=h.1;simpa using this,fun i a b h1 h2=>h.2 (i+1) _ _ (by simpa using h1) (by simpa using h2)⟩
theorem RepM.cons {x:AV × AV} {y:MapEntry} {es:List (AV × AV)} {en:List MapEntry} (h:sV w I α x y) (t:RepM w I α es en):RepM w I α (x::es) (y::en):=
 ⟨by simp[t.1],fun i a b h1 h2=>by
  cases i with
  |zero=>simp at h1 h2;subst h1;subst h2;exact h
  |succ i=>simp at h1 h2;exact t.2 i _ _ h1 h2⟩
theorem RepM.nil_inv {en:List MapEntry} (h:RepM w I α [] en):en=[]:=List.eq_nil_of_length_eq_zero (by have:=h.1;simpa using this.symm)
theorem xE {kd:TypeDesc} {k:AV} {k':Value} (hkd:fG kd k=true) (hk:Rep w I α k k'):∀ {es:List (AV × AV)} {en:List MapEntry} {r:Option AV} (i:Nat),RepM w I α es en→kW k es=some r→
  (r=none∧Instr.findNow kd k' en i=some none)∨∃v v' j,r=some v∧Instr.findNow kd k' en i=some (some (j,v'))∧Rep w I α v v'
 |[],en,r,i,hm,h=>by
  rw[hm.nil_inv]
  simp[kW] at h;subst h
  exact .inl ⟨rfl,rfl⟩
 | (x,v)::t,en,r,i,hm,h=>by
  obtain ⟨y,en',rfl,⟨h1,h2⟩,h3⟩:=hm.cons_inv
  simp only[kW] at h
  split at h
  ·rename_i he
   simp only[Option.some.injEq] at h;subst h
   exact .inr ⟨v,y.val,i,rfl,by simp[Instr.findNow,ke hkd hk h1 he],h2⟩
  ·rename_i he
   simp only[Instr.findNow,ke hkd hk h1 he]
   exact xE hkd hk (i+1) h3 h
  ·simp at h
theorem kf {b:Bool} {kt:TypeId} {kd:TypeDesc} {k:AV} {k':Value} (ht:P.underlying kt=some kd) (hkd:fG kd k=true) (hk:Rep w I α k k'):(Instr.checkKey b 10000 kt k').run P w= .ok () w:=by
 unfold fG at hkd
 unfold Instr.checkKey
 split at hkd
 ·cases hk;simp only[Sem.run_bind,aE ht,Result.andThen_ok];rfl
 ·cases hk;simp only[Sem.run_bind,aE ht,Result.andThen_ok];rfl
 ·simp at hkd
theorem Ee {t:TypeId} {m k:AV} {m' k':Value} {ok:Bool} {e:Eff} (c:Ctx P G call w I α H rid nx) (hm:Rep w I α m m') (hk:Rep w I α k k') (h:oV P t m k ok=some e):
  cy P G call w I α H rid nx (Instr.lookup t m' k' ok) e:=by
 unfold oV at h
 split at h
 ·rename_i kt et ht
  split at h
  ·rename_i z hkk hz
   obtain ⟨kd,hkt,hkd⟩:=sU hkk
   obtain ⟨i,zv,g1,g2,g3⟩:=gb hz
   have hzr:Rep w I α z zv:=fc g3
   have ans:∀ (r:Option AV) (v':Value),(match r with|some v=>Rep w I α v v'|none=>v'=zv)→Rep w I α (kY ok z r) (if ok then .tuple #[v',.bool r.isSome] else v'):=fun r v' hr=>by
    cases ok<;>cases r<;>simp only[kY,if_true,Bool.false_eq_true,if_false,Option.isSome_some,Option.isSome_none]
    ·simp only at hr;subst hr;exact hzr
    ·exact hr
    ·simp only at hr;subst hr;exact Rep.tuple_iff.2 ⟨_,rfl,.cons hzr (.cons (.bool _) .nil)⟩
    ·exact Rep.tuple_iff.2 ⟨_,rfl,.cons hr (.cons (.bool _) .nil)⟩
   split at h
   ·simp only[Option.some.injEq] at h;subst h
    cases hm
    refine bH c ?_ (ans none zv rfl)
    have hf:Instr.findNow kd k' [] 0=some none:=rfl
    cases ok<;>simp[Instr.lookup,aE ht,kf hkt hkd hk,Instr.findKey,aE hkt,hf,gg g1 g2]
   ·rename_i id
    simp only[Option.some.injEq] at h;subst h
    cases hm with
    | map _ b hb=>
     refine fJ c fun blk b' e' hg hα hB hkk=> ?_
     rw[hb] at hα;cases hα
     split at hkk
     ·rename_i cl st es
      split at hkk
      ·rename_i r hr
       simp only[Option.some.injEq] at hkk;subst hkk
       obtain ⟨en,q1,q2,q4,q3⟩:=hB
       have hM:RepM w I α es en.toList:=⟨by simpa using q2,fun i x y h1 h2=>q3 i x y h1 (by simpa using h2)⟩
       have hget:(getObj b).run P w= .ok (.map en cl) w:=by simp[getObj,Sem.run,q1]
       rcases xE hkd hk 0 hM hr with ⟨rfl,hf⟩|⟨v,v',j,rfl,hf,hv⟩
       ·refine bH c ?_ (ans none zv rfl)
        cases ok<;>simp[Instr.lookup,aE ht,hget,kf hkt hkd hk,Instr.findKey,aE hkt,hf,gg g1 g2]
       ·refine bH c ?_ (ans (some v) v' hv)
        cases ok<;>simp[Instr.lookup,aE ht,hget,kf hkt hkd hk,Instr.findKey,aE hkt,hf]
      ·simp at hkk
     ·simp at hkk
   ·simp at h
  ·simp at h
 ·simp at h
theorem xF {kd:TypeDesc} {k v:AV} {k' v':Value} (hkd:fG kd k=true) (hk:Rep w I α k k') (hv:Rep w I α v v'):∀ {es es':List (AV × AV)} {en:List MapEntry} (i:Nat),RepM w I α es en→kX k v es=some es'→
  (Instr.findNow kd k' en i=some none∧∀born,RepM w I α es' (en++[⟨k',v',born⟩]))∨
  ∃j u old,Instr.findNow kd k' en i=some (some (i+j,u))∧en[j]? =some old∧Instr.sameNow kd k' old.key=some true∧RepM w I α es' (en.set j {old with key:=k',val:=v'})
 |[],es',en,i,hm,h=>by
  rw[hm.nil_inv]
  simp[kX] at h;subst h
  exact .inl ⟨rfl,fun born=> .cons ⟨hk,hv⟩ ⟨rfl,by simp⟩⟩
 | (x,u)::t,es',en,i,hm,h=>by
  obtain ⟨y,en',rfl,⟨h1,h2⟩,h3⟩:=hm.cons_inv
  simp only[kX] at h
  split at h
  ·rename_i he
   simp only[Option.some.injEq] at h;subst h
   refine .inr ⟨0,y.val,y,by simp[Instr.findNow,ke hkd hk h1 he],rfl,ke hkd hk h1 he, ?_⟩
   exact .cons ⟨hk,hv⟩ h3
  ·rename_i he
   split at h
   ·rename_i u' hu'
    simp only[Option.some.injEq] at h;subst h
    simp only[Instr.findNow,ke hkd hk h1 he]
    rcases xF hkd hk hv (i+1) h3 hu' with ⟨e1,e2⟩|⟨j,u2,old,e1,e2,e3,e4⟩
    ·exact .inl ⟨e1,fun born=> .cons ⟨h1,h2⟩ (e2 born)⟩
    ·exact .inr ⟨j+1,u2,old,by rw[e1];congr 3;omega,by simpa using e2,e3,.cons ⟨h1,h2⟩ e4⟩
   ·simp at h
  ·simp at h
theorem Ef {kd:TypeDesc} {k:AV} {a b:Value} (hkd:fG kd k=true) (hk:Rep w I α k b) (h:Instr.sameNow kd b a=some true):Instr.sameBits 10000 a b=true:=by
 unfold fG at hkd
 split at hkd
 ·cases hk
  cases a<;>simp[Instr.sameNow] at h
  rw[beq_toListBytes] at h
  simp only[Instr.sameBits]
  rw[beq_toListBytes]
  simp only[beq_iff_eq] at h⊢
  exact h.symm
 ·cases hk
  cases a<;>simp[Instr.sameNow] at h
  obtain ⟨rfl,h⟩:=h
  simp[Instr.sameBits,h]
 ·simp at hkd
theorem Eg {t:TypeId} {m k v:AV} {m' k' v':Value} {e:Eff} (c:Ctx P G call w I α H rid nx) (hm:Rep w I α m m') (hk:Rep w I α k k') (hv:Rep w I α v v') (h:oW P t m k v=some e):
  pk P G call w I α H rid nx (Instr.mapUpdate t m' k' v') e:=by
 unfold oW at h
 split at h
 ·rename_i kt et ht
  split at h
  ·rename_i hkk
   obtain ⟨kd,hkt,hkd⟩:=sU hkk
   split at h
   ·rename_i id
    simp only[Option.some.injEq] at h;subst h
    cases hm with
    | map _ b hb=>
     refine lx c fun blk b' blk' u hg hα hB hkq=> ?_
     rw[hb] at hα;cases hα
     split at hkq
     ·rename_i cl st es
      split at hkq
      ·rename_i es' hes'
       obtain ⟨en,q1,q2,q4,q3⟩:=hB
       have hM:RepM w I α es en.toList:=⟨by simpa using q2,fun i x y h1 h2=>q3 i x y h1 (by simpa using h2)⟩
       have hget:(getObj b).run P w= .ok (.map en cl) w:=by simp[getObj,Sem.run,q1]
       have bU:∀ (o:Obj),(setObj b o).run P w= .ok () {w with heap:=w.heap.setIfInBounds b o}:=fun o=>by simp[setObj,Sem.run,q1]
       have hlt:b<w.heap.size:=(Array.getElem?_eq_some_iff.1 q1).1
       have fin:∀ (en':Array MapEntry) cl',RepM w I α es' en'.toList→Post G w I α H rid nx dW (aY H id (.mapb cl' (en'.toList.map (·.born)) es')) nx undef {w with heap:=w.heap.setIfInBounds b (.map en' cl')}:=fun en' cl' hM'=>by
        refine kb c hg hb (by simp) (fun k hk=>by simp[Ne.symm hk]) (by simp only[World.shape?,q1];rw[show (w.heap.setIfInBounds b (.map en' cl'))[b]? =some (.map en' cl') from by simp[hlt]]) (fun rel ev=> ?_) (fun _ _=>Rep.tuple_iff.2 ⟨_,rfl,.nil⟩)
        refine ⟨en',by simp[hlt],by have:=hM'.1;simpa using this,rfl,fun i x y h1 h2=> ?_⟩
        have:=hM'.2 i x y h1 (by simpa using h2)
        exact ⟨this.1.ev c.rel ev,this.2.ev c.rel ev⟩
       rcases xF hkd hk hv 0 hM hes' with ⟨hf,hr⟩|⟨j,u,old,hf,ho,hsame,hr⟩
       ·have hrun:(Instr.mapUpdate t (.map (some b)) k' v').run P w= .ok () {w with heap:=w.heap.setIfInBounds b (.map (en.push {key:=k',val:=v',born:=cl}) (cl+1))}:=by
         simp[Instr.mapUpdate,aE ht,hget,kf hkt hkd hk,Instr.findKey,aE hkt,hf,bU]
        have hb:Nat.beq (ac es') (ac es)=false:=by
         rw[beq_false_iff,aC,aC]
         have h1:=(hr cl).1
         have h2:=hM.1
         simp at h1 h2;omega
        rw[hb] at hkq
        simp only[Option.some.injEq,Prod.mk.injEq] at hkq
        obtain ⟨rfl,rfl⟩:=hkq
        rw[hrun]
        have:=fin (en.push {key:=k',val:=v',born:=cl}) (cl+1) (by simpa using hr cl)
        simp only[Array.toList_push,List.map_append,List.map_cons,List.map_nil] at this
        rw[q4]
        exact this
       ·simp only[Nat.zero_add] at hf
        have hoa:en[j]? =some old:=by simpa using ho
        have hkeep:(Instr.keyThatStays old.key k').run P w= .ok k' w:=by simp[Instr.keyThatStays,Ef hkd hk hsame]
        have hrun:(Instr.mapUpdate t (.map (some b)) k' v').run P w= .ok () {w with heap:=w.heap.setIfInBounds b (.map (en.modify j fun e=>{e with key:=k',val:=v'}) cl)}:=by
         simp[Instr.mapUpdate,aE ht,hget,kf hkt hkd hk,Instr.findKey,aE hkt,hf,bU,hoa,hkeep]
        have hb:Nat.beq (ac es') (ac es)=true:=by
         rw[beq_iff,aC,aC]
         have h1:=hr.1
         have h2:=hM.1
         simp at h1 h2;omega
        rw[hb] at hkq
        simp only[Option.some.injEq,Prod.mk.injEq] at hkq
        obtain ⟨rfl,rfl⟩:=hkq
        rw[hrun]
        have hl:(en.modify j fun e=>{e with key:=k',val:=v'}).toList=en.toList.set j {old with key:=k',val:=v'}:=by
         apply List.ext_getElem?
         intro i
         simp only[Array.getElem?_toList,Array.getElem?_modify,List.getElem?_set]
         by_cases hij:j=i
         ·subst hij
          have hj:j<en.size:=(Array.getElem?_eq_some_iff.1 hoa).1
          rw[hoa];simp[hj]
         ·simp[hij]
        have:=fin (en.modify j fun e=>{e with key:=k',val:=v'}) cl (by rw[hl];exact hr)
        have hst:(en.modify j fun e=>{e with key:=k',val:=v'}).toList.map (·.born)=st:=by
         rw[hl,q4]
         apply List.ext_getElem?
         intro i
         simp only[List.getElem?_map,List.getElem?_set]
         by_cases hij:j=i
         ·subst hij
          have hj:j<en.size:=(Array.getElem?_eq_some_iff.1 hoa).1
          have ho':en.toList[j]? =some old:=by simpa using hoa
          simp only[ho'];simp[hj]
         ·simp[hij]
        rw[hst] at this
        exact this
      ·simp at hkq
     ·simp at hkq
   ·simp at h
  ·simp at h
 ·simp at h
theorem sW {kd:TypeDesc} {k:AV} {k':Value} (hkd:fG kd k=true) (hk:Rep w I α k k'):∀ {es:List (AV × AV)} {en:List MapEntry} {r:Option Nat} (i:Nat),RepM w I α es en→kZ k es i=some r→
  (r=none∧Instr.findNow kd k' en i=some none)∨∃v' j,r=some j∧Instr.findNow kd k' en i=some (some (j,v'))
 |[],en,r,i,hm,h=>by
  rw[hm.nil_inv]
  simp[kZ] at h;subst h
  exact .inl ⟨rfl,rfl⟩
 | (x,v)::t,en,r,i,hm,h=>by
  obtain ⟨y,en',rfl,⟨h1,h2⟩,h3⟩:=hm.cons_inv
  simp only[kZ] at h
  split at h
  ·rename_i he
   simp only[Option.some.injEq] at h;subst h
   exact .inr ⟨y.val,i,rfl,by simp[Instr.findNow,ke hkd hk h1 he]⟩
  ·rename_i he
   simp only[Instr.findNow,ke hkd hk h1 he]
   exact sW hkd hk (i+1) h3 h
  ·simp at h
theorem RepM.erase:∀ {es:List (AV × AV)} {en:List MapEntry} (i:Nat),RepM w I α es en→RepM w I α (es.eraseIdx i) (en.eraseIdx i)
 |[],en,i,h=>by rw[h.nil_inv];exact ⟨rfl,by simp⟩
 |x::t,en,i,h=>by
  obtain ⟨y,en',rfl,h1,h2⟩:=h.cons_inv
  cases i with
  |zero=>simpa using h2
  |succ i=>simpa using RepM.cons h1 (RepM.erase i h2)
theorem xG:∀ (l:List MapEntry) (i:Nat),(l.eraseIdx i).map (·.born)=(l.map (·.born)).eraseIdx i
 |[],i=>by simp
 |a::t,0=>by simp
 |a::t,i+1=>by simp[xG t i]
theorem xH (a:Array MapEntry) (i:Nat):(a.eraseIdxIfInBounds i).toList=a.toList.eraseIdx i:=by
 unfold Array.eraseIdxIfInBounds
 split
 ·simp[Array.toList_eraseIdx]
 ·rename_i h
  rw[List.eraseIdx_of_length_le]
  simpa using h
theorem Eh {argTypes:Array TypeId} {ty:TypeId} {m k:AV} {m' k':Value} {e:Eff} (c:Ctx P G call w I α H rid nx) (hm:Rep w I α m m') (hk:Rep w I α k k') (h:oX P argTypes m k=some e):
  cy P G call w I α H rid nx (Builtin.delete_ argTypes ty #[m',k']) e:=by
 unfold oX at h
 split at h
 ·rename_i t h0
  split at h
  ·rename_i kt et ht
   split at h
   ·rename_i hkk
    obtain ⟨kd,hkt,hkd⟩:=sU hkk
    split at h
    ·rename_i id
     simp only[Option.some.injEq] at h;subst h
     cases hm with
     | map _ b hb=>
      refine lx c fun blk b' blk' u hg hα hB hkq=> ?_
      rw[hb] at hα;cases hα
      split at hkq
      ·rename_i cl st es
       obtain ⟨en,q1,q2,q4,q3⟩:=hB
       have hM:RepM w I α es en.toList:=⟨by simpa using q2,fun i x y h1 h2=>q3 i x y h1 (by simpa using h2)⟩
       have hget:(getObj b).run P w= .ok (.map en cl) w:=by simp[getObj,Sem.run,q1]
       have bU:∀ (o:Obj),(setObj b o).run P w= .ok () {w with heap:=w.heap.setIfInBounds b o}:=fun o=>by simp[setObj,Sem.run,q1]
       have hlt:b<w.heap.size:=(Array.getElem?_eq_some_iff.1 q1).1
       have fin:∀ (en':Array MapEntry) es' st',RepM w I α es' en'.toList→st'=en'.toList.map (·.born)→Post G w I α H rid nx (.tuple []) (aY H id (.mapb cl st' es')) nx (.tuple #[]) {w with heap:=w.heap.setIfInBounds b (.map en' cl)}:=fun en' es' st' hM' hst=>by
        refine kb c hg hb (by simp) (fun k hk=>by simp[Ne.symm hk]) (by simp only[World.shape?,q1];rw[show (w.heap.setIfInBounds b (.map en' cl))[b]? =some (.map en' cl) from by simp[hlt]]) (fun rel ev=> ?_) (fun _ _=>Rep.tuple_iff.2 ⟨_,rfl,.nil⟩)
        refine ⟨en',by simp[hlt],by have:=hM'.1;simpa using this,hst,fun i x y h1 h2=> ?_⟩
        have:=hM'.2 i x y h1 (by simpa using h2)
        exact ⟨this.1.ev c.rel ev,this.2.ev c.rel ev⟩
       split at hkq
       ·rename_i i hi
        simp only[Option.some.injEq,Prod.mk.injEq] at hkq
        obtain ⟨rfl,rfl⟩:=hkq
        rcases sW hkd hk 0 hM hi with ⟨hr,_⟩|⟨v',j,hr,hf⟩
        ·cases hr
        ·cases hr
         have hrun:(Builtin.delete_ argTypes ty #[.map (some b),k']).run P w= .ok (.tuple #[]) {w with heap:=w.heap.setIfInBounds b (.map (en.eraseIdxIfInBounds i) cl)}:=by
          simp[Builtin.delete_,h0,aE ht,hget,kf hkt hkd hk,Instr.findKey,aE hkt,hf,bU]
         rw[hrun]
         exact fin _ _ _ (by rw[xH];exact hM.erase i) (by rw[xH,xG,q4])
       ·rename_i hi
        simp only[Option.some.injEq,Prod.mk.injEq] at hkq
        obtain ⟨rfl,rfl⟩:=hkq
        rcases sW hkd hk 0 hM hi with ⟨_,hf⟩|⟨v',j,hr,_⟩
        ·have hrun:(Builtin.delete_ argTypes ty #[.map (some b),k']).run P w= .ok (.tuple #[]) {w with heap:=w.heap.setIfInBounds b (.map en cl)}:=by
          simp[Builtin.delete_,h0,aE ht,hget,kf hkt hkd hk,Instr.findKey,aE hkt,hf,bU]
         rw[hrun]
         exact fin _ _ _ hM q4
        ·cases hr
       ·simp at hkq
      ·simp at hkq
    ·simp at h
   ·simp at h
  ·simp at h
 ·simp at h
theorem xI:∀ (l:List Nat) (x:Nat),dD l x=l.contains x
 |[],_=>rfl
 |a::t,x=>by
  simp only[dD,List.contains_cons]
  cases h:Nat.beq a x with
  |true=>rw[beq_iff.1 h];simp
  |false=>rw[xI t x,beq_eq_false_iff_ne.2 (Ne.symm (beq_false_iff.1 h))];rfl
theorem ia:∀ {l:List Nat} {n:Nat},jZ l n=true→∀x∈l,x<n
 |[],_,_,_,h=>by cases h
 |a::t,n,h,x,hx=>by
  simp only[jZ,Bool.and_eq_true] at h
  rcases List.mem_cons.1 hx with rfl|hx
  ·exact blt_iff.1 h.1
  ·exact ia h.2 x hx
theorem xJ {m since:Nat} {seen:List Nat} {cl:Nat}:∀ {es:List (AV × AV)} {st:List Nat} {en:List MapEntry} {l:List (AV × Blk)},RepM w I α es en→st=en.map (·.born)→mY m since seen cl st es=some l→
  (∀e∈en,seen.contains e.born=false→∃v,(v,Blk.miter m since (seen++[e.born]) cl)∈l∧Rep w I α v (.tuple #[.bool true,e.key,e.val]))∧((∀e∈en,seen.contains e.born=true)→l=[])
 |[],st,en,l,hm,hs,h=>by
  have:=hm.nil_inv;subst this
  simp at hs;subst hs
  simp[mY] at h;subst h
  exact ⟨by simp,fun _=>rfl⟩
 | (k,v)::es,st,en,l,hm,hs,h=>by
  obtain ⟨y,en',rfl,⟨h1,h2⟩,h3⟩:=hm.cons_inv
  simp only[List.map_cons] at hs;subst hs
  simp only[mY] at h
  split at h
  ·rename_i l' hl'
   obtain ⟨a1,a2⟩:=xJ h3 rfl hl'
   rw[xI] at h
   split at h
   ·rename_i hc
    cases h
    refine ⟨fun e he hn=> ?_,fun ha=>a2 fun e he=>ha e (by simp[he])⟩
    rcases List.mem_cons.1 he with rfl|he
    ·rw[hc] at hn;cases hn
    ·exact a1 e he hn
   ·rename_i hc
    cases h
    refine ⟨fun e he hn=> ?_,fun ha=> ?_⟩
    ·rcases List.mem_cons.1 he with rfl|he
     ·exact ⟨_,by simp,Rep.tuple_iff.2 ⟨_,rfl,.cons (.bool true) (.cons h1 (.cons h2 .nil))⟩⟩
     ·obtain ⟨v',e1,e2⟩:=a1 e he hn
      exact ⟨v',by simp[e1],e2⟩
    ·have:=ha y (by simp)
     rw[hc] at this;cases this
  ·simp at h
theorem sX {id it:Nat} {m since last:Nat} {seen:List Nat} {mp:Blk} {l:List (AV × Blk)} {ty:TypeId} (c:Ctx P G call w I α H rid nx) (hit:α id=some it) (hg:hget H id=some (.miter m since seen last)) (hm:hget H m=some mp)
  (hl:k7 (.miter m since seen last) mp=some l):
  (l=[]∧(Instr.next (.pointer (some ⟨it,0,none⟩)) false ty).run P w= .ok (.tuple #[.bool false]) w)∨
  ∃v b v' w',(v,b)∈l∧(Instr.next (.pointer (some ⟨it,0,none⟩)) false ty).run P w= .ok v' w'∧Post G w I α H rid nx v (aY H id b) nx v' w':=by
 cases mp with
 | mapb cl st es=>
  simp only[k7] at hl
  split at hl
  ·rename_i hc
   rw[Bool.and_eq_true] at hc
   obtain ⟨b1,e1,_,mb,hmb,hI⟩:=c.rel.live id _ hg
   rw[hit] at e1;cases e1
   obtain ⟨b2,e2,_,en,q1,q2,q4,q3⟩:=c.rel.live m _ hm
   rw[hmb] at e2;cases e2
   have hM:RepM w I α es en.toList:=⟨by simpa using q2,fun i x y h1 h2=>q3 i x y h1 (by simpa using h2)⟩
   obtain ⟨a1,a2⟩:=xJ hM q4 hl
   have hlt:it<w.heap.size:=(Array.getElem?_eq_some_iff.1 hI).1
   rcases run_next_at (P:=P) w ty it mb since last seen.toArray en cl hI q1 (fun x hx=>ia hc.1 x.born (by rw[q4];exact List.mem_map_of_mem hx)) (Nat.le_of_ble_eq_true hc.2) with ⟨h1,h2⟩|⟨e,h1,w1,h2,h3⟩
   ·refine .inl ⟨a2 fun e he=> ?_,h2⟩
    unfold leftOf at h1
    have h1':=Array.eq_empty_of_size_eq_zero h1
    rw[Array.filter_eq_empty_iff] at h1'
    have:=h1' e (by simpa using he)
    simpa using this
   ·unfold leftOf at h1
    simp only[Array.mem_toList_iff,Array.mem_filter] at h1
    obtain ⟨v,k1,k2⟩:=a1 e (by simpa using h1.1) (by simpa using h1.2)
    refine .inr ⟨v,_,_,_,k1,h3, ?_⟩
    have hw1:w1.heap=w.heap∧SameOs w w1:=by rcases h2 with rfl|rfl<;>first|exact ⟨rfl,rfl,rfl,rfl,Nat.le_refl _⟩|exact ⟨rfl,rfl,rfl,rfl,Nat.le_succ _⟩
    have hb':(ChangeMaps.setBlock w1 it (.mapIter (some mb) since (seen.toArray.push e.born) cl)).heap=w.heap.setIfInBounds it (.mapIter (some mb) since (seen.toArray.push e.born) cl):=by simp[ChangeMaps.setBlock,hw1.1]
    refine kb (w':=ChangeMaps.setBlock w1 it (.mapIter (some mb) since (seen.toArray.push e.born) cl)) c hg hit (by rw[hb'];simp) (fun k hk=>by rw[hb'];simp[Ne.symm hk]) ?_ (fun rel ev=>⟨mb,hmb,by rw[hb'];simp[hlt]⟩) (fun rel ev=>k2.ev c.rel ev) ⟨hw1.2.1,hw1.2.2.1,hw1.2.2.2⟩
    simp only[World.shape?,hb',hI]
    rw[show (w.heap.setIfInBounds it (.mapIter (some mb) since (seen.toArray.push e.born) cl))[it]? =some (.mapIter (some mb) since (seen.toArray.push e.born) cl) from by simp[hlt]]
  ·simp at hl
 |_=>simp[k7] at hl
theorem Ei {x:AV} {x':Value} {b:Bool} {ty:TypeId} {e:Eff} (c:Ctx P G call w I α H rid nx) (hx:Rep w I α x x') (h:sf x b=some e):cy P G call w I α H rid nx (Instr.next x' b ty) e:=by
 unfold sf at h
 split at h
 ·rename_i id
  cases h
  cases hx with
  | ptr _ _ it hit=>
   refine fJ c fun blk b' e' hg hα hB hk=> ?_
   rw[hit] at hα;cases hα
   split at hk
   ·rename_i m since seen last
    cases hk
    refine fJ c fun blk2 b2 e2 hg2 hα2 hB2 hk2=> ?_
    split at hk2
    ·rename_i hl
     cases hk2
     rcases sX (ty:=ty) c hit hg hg2 hl with ⟨_,hr⟩|⟨v,b,v',w',hm,_⟩
     ·exact bH c hr (Rep.tuple_iff.2 ⟨_,rfl,.cons (.bool false) .nil⟩)
     ·cases hm
    ·rename_i v bl hl
     cases hk2
     refine lx c fun blk3 b3 blk' u hg3 hα3 hB3 hk3=> ?_
     split at hk3
     ·cases hk3
      rcases sX (ty:=ty) c hit hg hg2 hl with ⟨h0,_⟩|⟨v',b',u',w',hm,hr,hp⟩
      ·cases h0
      ·simp only[List.mem_singleton,Prod.mk.injEq] at hm
       obtain ⟨rfl,rfl⟩:=hm
       rw[hr];exact hp
     ·simp at hk3
    ·simp at hk2
   ·simp at hk
 ·simp at h
theorem Ej {t:TypeId} {x:AV} {x':Value} {e:Eff} (c:Ctx P G call w I α H rid nx) (hx:Rep w I α x x') (h:sd P t x=some e):cy P G call w I α H rid nx (Instr.range t x') e:=by
 unfold sd at h
 split at h
 ·rename_i m ht
  cases h
  cases hx with
  | map _ b hb=>
   refine fJ c fun blk b' e' hg hα hB hk=> ?_
   rw[hb] at hα;cases hα
   split at hk
   ·rename_i cl st es
    cases hk
    obtain ⟨en,q1,q2,q4,q3⟩:=hB
    have hget:(getObj b).run P w= .ok (.map en cl) w:=by simp[getObj,Sem.run,q1]
    have hrun:(Instr.range t (.map (some b))).run P w= .ok (.pointer (some ⟨w.heap.size,0,none⟩)) {w with heap:=w.heap.push (.mapIter (some b) cl #[] cl)}:=by
     simp[Instr.range,aE ht,hget,newObj,Sem.run]
    refine ng c (w':={w with heap:=w.heap.push (.mapIter (some b) cl #[] cl)}) (v':= .pointer (some ⟨w.heap.size,0,none⟩)) (by rw[hrun];rfl) rfl (fun α' hα' rel=>⟨b,hα' _ _ hb,by simp⟩) (fun α' hα'=> .ptr _ _ _ hα')
   ·simp at hk
 ·simp at h
theorem xK {s:Nat}:∀ {es:List (AV × AV)} {st:List Nat} {en:List MapEntry} {v:AV},RepM w I α es en→st=en.map (·.born)→li s st es=some v→
  ∃e,en.find? (·.born==s)=some e∧Rep w I α v (.tuple #[e.key,e.val])
 |[],st,en,v,hm,hs,h=>by
  have:=hm.nil_inv;subst this
  simp at hs;subst hs
  simp[li] at h
 | (k,u)::es,st,en,v,hm,hs,h=>by
  obtain ⟨y,en',rfl,⟨h1,h2⟩,h3⟩:=hm.cons_inv
  simp only[List.map_cons] at hs;subst hs
  simp only[li] at h
  split at h
  ·rename_i hb
   cases h
   exact ⟨y,by simp[beq_iff.1 hb],Rep.tuple_iff.2 ⟨_,rfl,.cons h1 (.cons h2 .nil)⟩⟩
  ·rename_i hb
   obtain ⟨e,e1,e2⟩:=xK h3 rfl h
   exact ⟨e,by rw[List.find?_cons,beq_eq_false_iff_ne.2 (beq_false_iff.1 hb)];exact e1,e2⟩
theorem xL:∀ {l:List Nat} {s:Nat},j2 l=some s→l.toArray.back? =some s
 |[],_,h=>by simp[j2] at h
 |[a],_,h=>by simp[j2] at h;subst h;rfl
 |a::b::t,s,h=>by
  simp only[j2] at h
  have:=xL h
  simpa using this
theorem Ek {x:AV} {x':Value} {e:Eff} (c:Ctx P G call w I α H rid nx) (hx:Rep w I α x x') (h:oY x=some e):cy P G call w I α H rid nx (Instr.entry x') e:=by
 unfold oY at h
 split at h
 ·rename_i id
  cases h
  cases hx with
  | ptr _ _ it hit=>
   refine fJ c fun blk b' e' hg hα hB hk=> ?_
   rw[hit] at hα;cases hα
   split at hk
   ·rename_i m since seen last
    cases hk
    obtain ⟨mb,hmb,hI⟩:=hB
    refine fJ c fun blk2 b2 e2 hg2 hα2 hB2 hk2=> ?_
    rw[hmb] at hα2;cases hα2
    split at hk2
    ·rename_i cl st es
     split at hk2
     ·rename_i s hcl hs
      split at hk2
      ·rename_i v hv
       cases hk2
       have hcl:=beq_iff.1 hcl
       subst hcl
       obtain ⟨en,q1,q2,q4,q3⟩:=hB2
       have hM:RepM w I α es en.toList:=⟨by simpa using q2,fun i x y h1 h2=>q3 i x y h1 (by simpa using h2)⟩
       obtain ⟨e,e1,e2⟩:=xK hM q4 hv
       have e1':en.find? (·.born==s)=some e:=by rw[←Array.find?_toList];exact e1
       refine bH c ?_ e2
       simp only[Instr.entry,getObj,Sem.run_bind,Sem.run,hI,q1,Result.andThen,xL hs,bne_self_eq_false,Bool.false_eq_true,if_false,e1']
       rfl
      ·simp at hk2
     ·simp at hk2
    ·simp at hk2
   ·simp at hk
 ·simp at h
end
end Go.Proofs.Abs
/- Calls; each operation. -/
namespace Go.Proofs.Abs
open Go
section
variable {P:Program} {G:aF} {call:aI} {w:World} {I:Nat→Prop} {α:Nat→Option Nat} {H:ab} {rid nx:Nat}
theorem El {t:TypeId} {v':Value} {name:String} {f:FuncId} (h:oZ P t name=some f):∀n,(method (n+1) t v' name).run P w= .ok (f,v') w:=by
 intro n
 unfold oZ at h
 split at h
 ·rename_i i hi
  split at h
  ·rename_i m hm
   split at h
   ·rename_i hp
    have hp:m.path= #[]:=by simpa using hp
    split at h
    ·rename_i f' e hf ht
     simp only[Option.some.injEq] at h;subst h
     simp[method,fe hi,hm,hp,follow,hf,receiverAt,aE ht,Place.get]
    ·simp at h
    ·rename_i f' d hne hf ht
     simp only[Option.some.injEq] at h;subst h
     cases d<;>first
      |(exact (hne _ rfl).elim)
      |simp[method,fe hi,hm,hp,follow,hf,receiverAt,aE ht,Place.get]
    ·simp at h
   ·simp at h
  ·simp at h
 ·simp at h
theorem Em {t:TypeId} {v':Value} {name:String} {f:FuncId} {args:Array Value} (h:oZ P t name=some f):
  (callMethod (.iface t v') name args).run P w=(callFunc f (#[v']++args)).run P w:=by
 have hd:P.types.size+Made.depth=(P.types.size+Made.depth-1)+1:=by
  have:0<Made.depth:=by decide
  omega
 simp only[callMethod,Sem.run_bind,run_program,Result.andThen_ok]
 rw[hd,El h]
 rfl
def kg (e:TypeId) (v:Value):Sem Value:=do loadVar e (←asAddr v)
theorem En {t:TypeId} {a:Addr} {s:String}:(Builtin.ssaWrapNilChk_ #[t] t #[.pointer (some a),strVal "",strVal s]).run P w= .ok (.pointer (some a)) w:=rfl
theorem Eo {t e:TypeId} {v' u':Value} {name:String} {f:FuncId} {args:Array Value} (h:sn P t name=some (e,f)) (hl:(kg e v').run P w= .ok u' w):
  (callMethod (.iface t v') name args).run P w=(callFunc f (#[u']++args)).run P w:=by
 have hd:P.types.size+Made.depth=(P.types.size+Made.depth-1)+1:=by
  have:0<Made.depth:=by decide
  omega
 have hp:∃a,v'= .pointer (some a):=by
  unfold kg at hl
  cases v' with
  |pointer p=>cases p with
   |none=>simp[asAddr,runtimePanic] at hl
   |some a=>exact ⟨a,rfl⟩
  |_=>simp[asAddr,stuck] at hl
 obtain ⟨a,rfl⟩:=hp
 simp only[kg,asAddr,pure_bind] at hl
 have hm:∀n,(method (n+1) t (.pointer (some a)) name).run P w= .ok (f,u') w:=by
  intro n
  unfold sn at h
  split at h
  ·rename_i i hi
   split at h
   ·rename_i m hm
    split at h
    ·rename_i hp
     have hp:m.path= #[]:=by simpa using hp
     split at h
     ·rename_i f' e' hf ht
      simp only[Option.some.injEq,Prod.mk.injEq] at h
      obtain ⟨rfl,rfl⟩:=h
      simp[method,fe hi,hm,hp,follow,hf,receiverAt,aE ht,Place.get,En,asAddr,hl]
     ·simp at h
    ·simp at h
   ·simp at h
  ·simp at h
 simp only[callMethod,Sem.run_bind,run_program,Result.andThen_ok]
 rw[hd,hm]
 rfl
theorem xM {fn:Fn} {args cap:List AV} {args' cap':Array Value} {e:Eff} (c:Ctx P G call w I α H rid nx) (ha:RepL w I α args args'.toList) (hc:RepL w I α cap cap'.toList)
  (h:o0 P G fn args cap=some e):cS P G call w I α H rid nx ((invoke (.fn fn cap') args').run P w) e:=by
 have via:∀ (t:TypeId) (v:AV) (v':Value) (name:String) (rest:List AV) (rest':Array Value),Rep w I α v v'→RepL w I α rest rest'.toList→mZ P G t v name rest=some e→
   cS P G call w I α H rid nx ((callMethod (.iface t v') name rest').run P w) e:=by
  intro t v v' name rest rest' hv hr hh
  unfold mZ at hh
  split at hh
  ·rename_i f hf
   simp only[Option.some.injEq] at hh;subst hh
   exact sw c (Em hf) (by simpa using RepL.cons hv hr)
  ·split at hh
   ·rename_i e0 f hd
    have fin:∀u u',(kg e0 v').run P w= .ok u' w→Rep w I α u u'→cS P G call w I α H rid nx ((callMethod (.iface t v') name rest').run P w) (.call f (u::rest)):=fun u u' h1 h2=>
     sw c (Eo hd h1) (by simpa using RepL.cons h2 hr)
    unfold eh at hh
    split at hh
    ·rename_i x hx
     split at hx
     ·cases hx
     ·simp only[Option.map_eq_some_iff] at hx
      obtain ⟨u,hu,e1⟩:=hx
      cases e1
      simp only[Option.some.injEq] at hh;subst hh
      obtain ⟨b,base,rfl,hI,hrow⟩:=hv.fptr_row
      obtain ⟨u',h1,h2⟩:=hrow.part (P:=P) hu
      exact fin _ u' (by simp[kg,asAddr,h1]) h2
     ·rename_i g off
      split at hx
      ·rename_i l hl
       simp only[Option.map_eq_some_iff] at hx
       obtain ⟨u,hu,e1⟩:=hx
       cases e1
       simp only[Option.some.injEq] at hh;subst hh
       cases hv
       have hrow:Row w I α g 0 l:=fun j x hx=>by
        obtain ⟨y,h1,h2⟩:=(c.rel.glob g l hl).2 j x hx
        exact ⟨y,by rw[Nat.zero_add];exact h1,h2⟩
       obtain ⟨u',h1,h2⟩:=hrow.part (P:=P) hu
       rw[Nat.zero_add] at h1
       exact fin _ u' (by simp[kg,asAddr,h1]) h2
      ·cases hx
     ·cases hx
    ·rename_i id k hx
     simp only[Option.some.injEq] at hh;subst hh
     split at hx
     ·simp only[Option.some.injEq,Eff.read.injEq] at hx
      obtain ⟨rfl,rfl⟩:=hx
      cases hv with
      | ptr _ off b hb=>
       refine fJ c fun blk b' e' hg hα hB hk=> ?_
       rw[hb] at hα;cases hα
       simp only[Option.bind_eq_some_iff] at hk
       obtain ⟨e1,hk1,hk2⟩:=hk
       split at hk1
       ·simp only[Option.map_eq_some_iff] at hk1
        obtain ⟨u,hu,rfl⟩:=hk1
        simp only[wZ,Option.some.injEq] at hk2;subst hk2
        obtain ⟨u',h1,h2⟩:=hB.row.part (P:=P) hu
        rw[Nat.zero_add] at h1
        exact fin _ u' (by simp[kg,asAddr,h1]) h2
       ·cases hk1
     ·simp only[Option.map_eq_some_iff] at hx
      obtain ⟨u,_,hx⟩:=hx;cases hx
     ·split at hx
      ·simp only[Option.map_eq_some_iff] at hx
       obtain ⟨u,_,hx⟩:=hx;cases hx
      ·cases hx
     ·cases hx
    ·cases hh
   ·cases hh
 unfold o0 at h
 split at h
 ·simp only[Option.some.injEq] at h;subst h
  exact sw (vs:=args'++cap') c (by simp[invoke]) (by simpa using ha.append hc)
 ·rename_i name
  split at h
  ·rename_i t v rest
   obtain ⟨y,r',e1,h1,h2⟩:=ha.cons_inv
   cases h1 with
   |iface _ _ v' hv=>
    have e2:args'=(Value.iface t v'::r').toArray:=by rw[←e1]
    have h0:args'[0]? =some (.iface t v'):=by rw[e2];rfl
    have h3:(args'.extract 1 args'.size).toList=r':=by rw[e2];simp
    have:=via t v v' name rest (args'.extract 1 args'.size) hv (by rw[h3];exact h2) h
    simpa [invoke,h0] using this
  ·simp at h
 ·rename_i t name
  split at h
  ·rename_i r rest
   obtain ⟨y,r',e1,h1,h2⟩:=ha.cons_inv
   have e2:args'=(y::r').toArray:=by rw[←e1]
   have h0:args'[0]? =some y:=by rw[e2];rfl
   have h3:(args'.extract 1 args'.size).toList=r':=by rw[e2];simp
   split at h
   ·rename_i ms ht
    split at h
    ·rename_i t' v
     cases h1 with
     |iface _ _ v' hv=>
      have:=via t' v v' name rest (args'.extract 1 args'.size) hv (by rw[h3];exact h2) h
      simpa [invoke,h0,aE ht] using this
    ·simp at h
   ·rename_i d hni ht
    have:=via t r y name rest (args'.extract 1 args'.size) h1 (by rw[h3];exact h2) h
    cases d<;>first
     |(exact (hni _ rfl).elim)
     |simpa [invoke,h0,aE ht] using this
   ·simp at h
  ·simp at h
 ·simp at h
theorem Ep {b:Builtin} {at':Array TypeId} {ty:TypeId} {consts:Array Bool} {args:List AV} {args':Array Value} {e:Eff} (c:Ctx P G call w I α H rid nx) (ha:RepL w I α args args'.toList)
  (h:i5 P b at' args=some e):cS P G call w I α H rid nx ((builtin b at' ty consts args').run P w) e:=by
 unfold i5 at h
 split at h
 ·rename_i s x
  obtain ⟨y,r',e1,h1,h2⟩:=ha.cons_inv
  obtain ⟨z,r'',e2,h3,h4⟩:=h2.cons_inv
  have e3:args'= #[y,z]:=by
   apply Array.ext';rw[e1,e2,h4.nil_inv]
  subst e3
  have:=DZ (ty:=ty) c h1 h3 h
  simpa [builtin,cy] using this
 ·obtain ⟨y,r',e1,h1,h2⟩:=ha.cons_inv
  have e3:args'= #[y]:=by apply Array.ext';rw[e1,h2.nil_inv]
  subst e3
  have:=D9 (ty:=ty) c h1 h
  simpa [builtin,cy] using this
 ·rename_i d x
  obtain ⟨y,r',e1,h1,h2⟩:=ha.cons_inv
  obtain ⟨z,r'',e2,h3,h4⟩:=h2.cons_inv
  have e3:args'= #[y,z]:=by
   apply Array.ext';rw[e1,e2,h4.nil_inv]
  subst e3
  have:=Ea (ty:=ty) c h1 h3 h
  simpa [builtin,cy] using this
 ·obtain ⟨y,r',e1,h1,h2⟩:=ha.cons_inv
  have e3:args'= #[y]:=by apply Array.ext';rw[e1,h2.nil_inv]
  subst e3
  have:=Eb (ty:=ty) c h1 h
  simpa [builtin,cy] using this
 ·rename_i m k
  obtain ⟨y,r',e1,h1,h2⟩:=ha.cons_inv
  obtain ⟨z,r'',e2,h3,h4⟩:=h2.cons_inv
  have e3:args'= #[y,z]:=by
   apply Array.ext';rw[e1,e2,h4.nil_inv]
  subst e3
  have:=Eh (ty:=ty) c h1 h3 h
  simpa [builtin,cy] using this
 ·simp only[Option.map_eq_some_iff] at h
  obtain ⟨v,hv,rfl⟩:=h
  obtain ⟨v',h1,h2⟩:=Ec (P:=P) (at':=at') (ty:=ty) ha hv
  exact eQ c (by simp only[builtin,Sem.run_bind];rw[show args'.toList.toArray=args' from by simp] at h1;rw[h1];rfl) h2
 ·simp only[Option.map_eq_some_iff] at h
  obtain ⟨v,hv,rfl⟩:=h
  obtain ⟨v',h1,h2⟩:=Ed (P:=P) (at':=at') (ty:=ty) ha hv
  exact eQ c (by simp only[builtin,Sem.run_bind];rw[show args'.toList.toArray=args' from by simp] at h1;rw[h1];rfl) h2
 ·simp at h
theorem dL {o:Option AV} {e:Eff} (h:bz o=some e):∃v,o=some v∧e= .val v:=by
 cases o with
 |none=>simp[bz] at h
 |some v=>simp[bz] at h;exact ⟨v,rfl,h.symm⟩
theorem gh {ev:Operand→Option AV} {x:Operand} {k:AV→Option Eff} {e:Eff} (h:e1 ev x k=some e):∃v,ev x=some v∧k v=some e:=by
 unfold e1 at h;split at h
 ·rename_i v hv;exact ⟨v,hv,h⟩
 ·simp at h
theorem lA {ev:Operand→Option AV} {x y:Operand} {k:AV→AV→Option Eff} {e:Eff} (h:e2 ev x y k=some e):∃v u,ev x=some v∧ev y=some u∧k v u=some e:=by
 unfold e2 at h;split at h
 ·rename_i v u hv hu;exact ⟨v,u,hv,hu,h⟩
 ·simp at h
theorem Er {ev:Operand→Option AV} {x y z:Operand} {k:AV→AV→AV→Option Eff} {e:Eff} (h:e3 ev x y z k=some e):∃v u t,ev x=some v∧ev y=some u∧ev z=some t∧k v u t=some e:=by
 unfold e3 at h;split at h
 ·rename_i v u t hv hu ht;exact ⟨v,u,t,hv,hu,ht,h⟩
 ·simp at h
theorem Rep.bool_val {b:Bool} {v:Value} (h:Rep w I α (.bool b) v):v= .bool b:=by cases h;rfl
theorem Es {o:Oper} {ρ:Operand→Value} {x:Operand} {v u:AV} (ho:o.op= .nilCheck x) (hr:Rep w I α v (ρ x)) (hu:mO v=some u):
  u=v∧(execOp ρ o).run P w= .ok (.value (ρ x)) w:=by
 generalize hy:ρ x=y at hr
 unfold execOp
 simp only[ho,hy]
 unfold mO at hu
 split at hu<;>(try (simp at hu;done))<;>(simp only[Option.some.injEq] at hu;subst hu)
 ·cases hr;exact ⟨rfl,rfl⟩
 ·obtain ⟨b,base,rfl,_⟩:=hr.fptr_row;exact ⟨rfl,rfl⟩
 ·cases hr;exact ⟨rfl,rfl⟩
 ·cases hr;exact ⟨rfl,rfl⟩
 ·obtain ⟨a',c',rfl,_⟩:=Rep.func_iff.1 hr;exact ⟨rfl,rfl⟩
set_option maxHeartbeats 400000 in
theorem xN {o:Oper} {s:Tr} {a:Act} {e:Eff} (c:Ctx P G call w I α H rid nx) (hs:ff w I α s a.tmps) (h:a7 P G (aS s) o=some e):
  cS P G call w I α H rid nx ((execOp a.eval o).run P w) e:=by
 have V:∀ {s':Sem Value} {e':Eff},cy P G call w I α H rid nx s' e'→cS P G call w I α H rid nx ((do pure (Next.value (←s')):Sem Next).run P w) e':=fun h=>by
  simpa [cy] using h
 have U:∀ {s':Sem Unit} {e':Eff},pk P G call w I α H rid nx s' e'→cS P G call w I α H rid nx ((do s';pure Next.skip:Sem Next).run P w) e':=fun h=>by
  simpa [pk] using h
 unfold a7 at h
 unfold execOp
 split at h
 ·rename_i x ho
  obtain ⟨v,hv,rfl⟩:=dL h
  simp only[ho]
  exact eQ c rfl (be hs hv)
 ·rename_i x ho
  obtain ⟨v,hv,rfl⟩:=dL h
  simp only[ho]
  exact eQ c rfl (be hs hv)
 ·rename_i cnd x y ho
  simp only[ho]
  unfold o1 at h
  split at h
  ·rename_i hc
   obtain ⟨v,hv,rfl⟩:=dL h
   have hb:a.eval cnd= .bool true:=(be hs hc).bool_val
   exact eQ c (by simp[hb,asBool]) (be hs hv)
  ·rename_i hc
   obtain ⟨v,hv,rfl⟩:=dL h
   have hb:a.eval cnd= .bool false:=(be hs hc).bool_val
   exact eQ c (by simp[hb,asBool]) (be hs hv)
  ·simp at h
 ·rename_i t ho
  simp only[ho]
  unfold w5 at h
  split at h
  ·rename_i z hz
   simp only[lj,Option.some.injEq] at h;subst h
   exact V (DL c hz)
  ·simp at h
 ·rename_i t x ho
  simp only[ho]
  obtain ⟨v,hv,h⟩:=gh h
  simp only[lj,Option.some.injEq] at h;subst h
  exact V (xm (t:=t) c (be hs hv) (by simp[Instr.box,newVar,newRow]))
 ·rename_i t parts ho
  simp only[ho]
  unfold o2 at h
  split at h
  ·rename_i ps hps
   obtain ⟨v,hv,rfl⟩:=dL h
   obtain ⟨v',h1,h2⟩:=DT (P:=P) (parts':=parts.map fun (i,x)=>(i,a.eval x)) (by simpa using pp hs hps) hv
   exact V (bH c h1 h2)
  ·simp at h
 ·rename_i t n parts ho
  simp only[ho]
  unfold ll at h
  split at h
  ·rename_i ps hps
   obtain ⟨v,hv,rfl⟩:=dL h
   have hp:hZ w I α ps (parts.map fun (i,x)=>(i,a.eval x)).toList:=by
    rw[Array.toList_map];exact pp hs hps
   have hfin:=DU (t:=t) (n:=n) c hp hv
   exact V hfin
  ·simp at h
 ·rename_i t x ho
  simp only[ho]
  obtain ⟨v,hv,h⟩:=gh h
  exact V (DD c (be hs hv) h)
 ·rename_i t x y ho
  simp only[ho]
  obtain ⟨v,u,hv,hu,h⟩:=lA h
  exact U (DM c (be hs hv) (be hs hu) h)
 ·rename_i x ho
  obtain ⟨v,hv,h⟩:=gh h
  obtain ⟨u,hu,rfl⟩:=dL h
  obtain ⟨rfl,h1⟩:=Es (P:=P) ho (be hs hv) hu
  unfold execOp at h1
  exact eQ c h1 (be hs hv)
 ·rename_i op t x y t' ho
  simp only[ho]
  obtain ⟨v,u,hv,hu,h⟩:=lA h
  obtain ⟨r,hr,rfl⟩:=dL h
  obtain ⟨v',h1,h2⟩:=DB (xo:=x) (yo:=y) (be hs hv) (be hs hu) hr
  exact V (bH c h1 h2)
 ·rename_i op t x ho
  simp only[ho]
  obtain ⟨v,hv,h⟩:=gh h
  obtain ⟨u,hu,rfl⟩:=dL h
  obtain ⟨v',h1,h2⟩:=DC (P:=P) (be hs hv) hu
  exact V (bH c h1 h2)
 ·rename_i s' d x ho
  simp only[ho]
  obtain ⟨v,hv,h⟩:=gh h
  exact V (D7 c (be hs hv) h)
 ·rename_i t x ho
  simp only[ho]
  unfold sp at h
  split at h
  ·simp at h
  ·rename_i d hni ht
   split at h
   ·rename_i v hv
    simp only[Option.some.injEq] at h;subst h
    refine V (bH c (v':= .iface t (a.eval x)) ?_ (.iface t _ _ (be hs hv)))
    cases d<;>first|(exact (hni _ rfl).elim)|simp[Instr.makeInterface,aE ht]
   ·simp at h
  ·simp at h
 ·rename_i fn x y ho
  simp only[ho]
  unfold sr at h
  split at h
  ·rename_i x' y' hx hy
   simp only[Option.some.injEq] at h;subst h
   exact V (bH c (v':= .func fn (x.map a.eval) (y.map a.eval)) (by simp[Instr.makeFunc]) (Rep.func_iff.2 ⟨_,_,rfl,by simpa using pj hs hx,by simpa using pj hs hy⟩))
  ·simp at h
 ·rename_i t ho
  simp only[ho]
  simp only[Option.some.injEq] at h;subst h
  refine V (ng c (w':={w with heap:=w.heap.push (.map #[] 0)}) (v':= .map (some w.heap.size)) (by simp[Instr.makeMap]) rfl (fun α' hα rel=>⟨#[],by simp,rfl,rfl,by simp⟩) (fun α' hα=> .map _ _ hα))
 ·rename_i t l k ho
  simp only[ho]
  obtain ⟨v,u,hv,hu,h⟩:=lA h
  exact V (D8 c (be hs hv) (be hs hu) h)
 ·rename_i t x lo hi mx ho
  simp only[ho]
  unfold m5 at h
  split at h
  ·rename_i x' lo' hi' mx' h1 h2 h3 h4
   exact V (D5 c (be hs h1) (sO hs h2) (sO hs h3) (sO hs h4) h)
  ·simp at h
 ·rename_i t x f ho
  simp only[ho]
  obtain ⟨v,hv,h⟩:=gh h
  obtain ⟨u,hu,rfl⟩:=dL h
  obtain ⟨v',h1,h2⟩:=DE (P:=P) (be hs hv) hu
  exact V (bH c h1 h2)
 ·rename_i t x f ho
  simp only[ho]
  unfold ss at h
  split at h
  ·rename_i fd cs hf hx
   obtain ⟨v,hv,rfl⟩:=dL h
   obtain ⟨v',h1,h2⟩:=DI (P:=P) (be hs hx) hf hv
   exact V (bH c h1 h2)
  ·simp at h
 ·rename_i t x i ho
  simp only[ho]
  obtain ⟨v,u,hv,hu,h⟩:=lA h
  obtain ⟨r,hr,rfl⟩:=dL h
  obtain ⟨v',h1,h2⟩:=DG (P:=P) (be hs hv) (be hs hu) hr
  exact V (bH c h1 h2)
 ·rename_i t x i ho
  simp only[ho]
  obtain ⟨v,u,hv,hu,h⟩:=lA h
  obtain ⟨r,hr,rfl⟩:=dL h
  obtain ⟨v',h1,h2⟩:=DH (P:=P) (be hs hv) (be hs hu) hr
  exact V (bH c h1 h2)
 ·rename_i t x ho
  simp only[ho]
  obtain ⟨v,hv,h⟩:=gh h
  obtain ⟨u,hu,rfl⟩:=dL h
  obtain ⟨v',h1,h2⟩:=DF (P:=P) (be hs hv) hu
  exact V (bH c h1 h2)
 ·rename_i t m k ok ho
  simp only[ho]
  obtain ⟨v,u,hv,hu,h⟩:=lA h
  exact V (Ee c (be hs hv) (be hs hu) h)
 ·rename_i t m k x ho
  simp only[ho]
  obtain ⟨v,u,r,hv,hu,hr,h⟩:=Er h
  exact U (Eg c (be hs hv) (be hs hu) (be hs hr) h)
 ·rename_i x t t' ok ho
  simp only[ho]
  obtain ⟨v,hv,h⟩:=gh h
  obtain ⟨u,hu,rfl⟩:=dL h
  obtain ⟨v',h1,h2⟩:=DJ (P:=P) (xt:=t) (be hs hv) hu
  exact V (bH c h1 h2)
 ·rename_i x i ho
  simp only[ho]
  unfold o3 at h
  split at h
  ·rename_i vs hvs
   obtain ⟨v,hv,rfl⟩:=dL h
   obtain ⟨vs',hq,hr⟩:=Rep.tuple_iff.1 (be hs hvs)
   rw[eA] at hv
   obtain ⟨y,h1,h2⟩:=hr.get hv
   refine V (bH c (v':=y) ?_ h2)
   rw[hq]
   have:vs'[i]? =some y:=by simpa using h1
   simp[Instr.extract,this]
  ·simp at h
 ·rename_i t x ho
  simp only[ho]
  obtain ⟨v,hv,h⟩:=gh h
  exact V (Ej c (be hs hv) h)
 ·rename_i x b ho
  simp only[ho]
  obtain ⟨v,hv,h⟩:=gh h
  exact V (Ei c (be hs hv) h)
 ·rename_i x ho
  simp only[ho]
  obtain ⟨v,hv,h⟩:=gh h
  exact V (Ek c (be hs hv) h)
 ·rename_i cl ho
  simp only[ho]
  unfold f6 at h
  split at h
  ·simp at h
  ·rename_i args hargs
   have hra:RepL w I α args (cl.args.map a.eval).toList:=by simpa using pj hs hargs
   split at h
   ·rename_i b hcb
    simp only[resolve,hcb,Sem.run_bind,Sem.run_pure,Result.andThen_ok,invoke]
    exact Ep c hra h
   ·rename_i f hcf
    split at h
    ·rename_i fn first cap hf
     obtain ⟨first',cap',hq,h1,h2⟩:=Rep.func_iff.1 (be hs hf)
     have:=xM c (args':=first'++cl.args.map a.eval) (by simpa using h1.append hra) h2 h
     simpa [resolve,hcf,hq,Deferred.ofValue] using this
    ·simp at h
   ·rename_i r name hcr
    split at h
    ·rename_i v hv
     have:=xM c (args':= #[a.eval r]++cl.args.map a.eval) (cap':= #[]) (by simpa using RepL.cons (be hs hv) hra) .nil h
     simpa [resolve,hcr] using this
    ·simp at h
 ·simp at h
end
end Go.Proofs.Abs
/- Slots; one operation in its region. -/
namespace Go.Proofs.Abs
open Go
theorem Tr.get_node (v:Option AV) (l r:Tr) (k:Nat):(Tr.node v l r).get k=if k=0 then v else if k%2=1 then l.get (k/2) else r.get (k/2-1):=by
 show @Bool.rec (fun _=>Option AV) (@Bool.rec (fun _=>Option AV) (r.get (k/2-1)) (l.get (k/2)) (Nat.beq (k%2) 1)) v (Nat.beq k 0)=_
 by_cases h:k=0
 ·subst h;rfl
 ·rw[if_neg h,beq_false_iff.2 h]
  by_cases h2:k%2=1
  ·rw[if_pos h2,beq_iff.2 h2]
  ·rw[if_neg h2,beq_false_iff.2 h2]
theorem Tr.set_tip (d k:Nat) (x:AV):Tr.set (d+1) .tip k x=if k=0 then .node (some x) .tip .tip else if k%2=1 then .node none (Tr.set d .tip (k/2) x) .tip else .node none .tip (Tr.set d .tip (k/2-1) x):=by
 show @Bool.rec (fun _=>Tr) (@Bool.rec (fun _=>Tr) (Tr.node none .tip (Tr.set d .tip (k/2-1) x)) (.node none (Tr.set d .tip (k/2) x) .tip) (Nat.beq (k%2) 1)) (.node (some x) .tip .tip) (Nat.beq k 0)=_
 by_cases h:k=0
 ·subst h;rfl
 ·rw[if_neg h,beq_false_iff.2 h]
  by_cases h2:k%2=1
  ·rw[if_pos h2,beq_iff.2 h2]
  ·rw[if_neg h2,beq_false_iff.2 h2]
theorem Tr.set_node (d:Nat) (v:Option AV) (l r:Tr) (k:Nat) (x:AV):Tr.set (d+1) (.node v l r) k x=if k=0 then .node (some x) l r else if k%2=1 then .node v (Tr.set d l (k/2) x) r else .node v l (Tr.set d r (k/2-1) x):=by
 show @Bool.rec (fun _=>Tr) (@Bool.rec (fun _=>Tr) (Tr.node v l (Tr.set d r (k/2-1) x)) (.node v (Tr.set d l (k/2) x) r) (Nat.beq (k%2) 1)) (.node (some x) l r) (Nat.beq k 0)=_
 by_cases h:k=0
 ·subst h;rfl
 ·rw[if_neg h,beq_false_iff.2 h]
  by_cases h2:k%2=1
  ·rw[if_pos h2,beq_iff.2 h2]
  ·rw[if_neg h2,beq_false_iff.2 h2]
theorem Tr.get_set_ne:∀ (d:Nat) (t:Tr) {k j:Nat} (x:AV),j≠k→(Tr.set d t k x).get j=t.get j
 |0,_,_,_,_,_=>rfl
 | d +1,.tip,k,j,x,h=>by
  rw[Tr.set_tip]
  split
  ·rw[Tr.get_node,if_neg (by omega)];split<;>rfl
  ·split
   ·rw[Tr.get_node]
    split
    ·rfl
    ·split
     ·rw[Tr.get_set_ne d .tip x (by omega)];rfl
     ·rfl
   ·rw[Tr.get_node]
    split
    ·rfl
    ·split
     ·rfl
     ·rw[Tr.get_set_ne d .tip x (by omega)];rfl
 | d +1,.node v l r,k,j,x,h=>by
  rw[Tr.set_node]
  rw[Tr.get_node v l r]
  split
  ·have hj:j≠0:=by omega
   simp only[Tr.get_node,if_neg hj]
  ·split
   ·rw[Tr.get_node]
    split
    ·rfl
    ·split
     ·rw[Tr.get_set_ne d l x (by omega)]
     ·rfl
   ·rw[Tr.get_node]
    split
    ·rfl
    ·split
     ·rfl
     ·rw[Tr.get_set_ne d r x (by omega)]
theorem Tr.get_set_self:∀ (d:Nat) (t:Tr) {k:Nat} (x:AV),(Tr.set d t k x).get k=some x∨(Tr.set d t k x).get k=t.get k
 |0,_,_,_=> .inr rfl
 | d+1,.tip,k,x=>by
  rw[Tr.set_tip]
  split
  ·rename_i h;subst h;exact .inl (by rw[Tr.get_node,if_pos rfl])
  ·rename_i h
   split
   ·rename_i h2
    rw[Tr.get_node,if_neg h,if_pos h2]
    exact Tr.get_set_self d .tip x
   ·rename_i h2
    rw[Tr.get_node,if_neg h,if_neg h2]
    exact Tr.get_set_self d .tip x
 | d+1,.node v l r,k,x=>by
  rw[Tr.set_node]
  split
  ·rename_i h;subst h;exact .inl (by rw[Tr.get_node,if_pos rfl])
  ·rename_i h
   rw[Tr.get_node v l r,if_neg h]
   split
   ·rename_i h2
    rw[Tr.get_node,if_neg h,if_pos h2]
    exact Tr.get_set_self d l x
   ·rename_i h2
    rw[Tr.get_node,if_neg h,if_neg h2]
    exact Tr.get_set_self d r x
theorem Tr.get_set_lt:∀ (d:Nat) (t:Tr) {k:Nat} (x:AV),k+1<2^d→(Tr.set d t k x).get k=some x
 |0,_,k,_,h=>by simp at h
 | d+1,.tip,k,x,h=>by
  rw[Tr.set_tip]
  have h2:2^(d+1)=2*2^d:=by rw[Nat.pow_succ];omega
  split
  ·rename_i h;subst h;rw[Tr.get_node,if_pos rfl]
  ·rename_i h0
   split
   ·rename_i h1
    rw[Tr.get_node,if_neg h0,if_pos h1]
    exact Tr.get_set_lt d .tip x (by omega)
   ·rename_i h1
    rw[Tr.get_node,if_neg h0,if_neg h1]
    exact Tr.get_set_lt d .tip x (by omega)
 | d+1,.node v l r,k,x,h=>by
  rw[Tr.set_node]
  have h2:2^(d+1)=2*2^d:=by rw[Nat.pow_succ];omega
  split
  ·rename_i h;subst h;rw[Tr.get_node,if_pos rfl]
  ·rename_i h0
   split
   ·rename_i h1
    rw[Tr.get_node,if_neg h0,if_pos h1]
    exact Tr.get_set_lt d l x (by omega)
   ·rename_i h1
    rw[Tr.get_node,if_neg h0,if_neg h1]
    exact Tr.get_set_lt d r x (by omega)
theorem Tr.set_comm:∀ (d:Nat) (t:Tr) {k j:Nat} (x y:AV),k≠j→Tr.set d (Tr.set d t k x) j y=Tr.set d (Tr.set d t j y) k x
  |0,_,_,_,_,_,_=>rfl
  | d + 1, t,k,j,x,y,h=>by
    cases t with
    | tip=>
      rw[Tr.set_tip,Tr.set_tip]
      by_cases k0:k=0<;>by_cases j0:j=0<;>by_cases k1:k%2=1<;>by_cases j1:j%2=1<;>
        first
        |omega
        |(simp only[k0,j0,k1,j1,if_true,if_false,Tr.set_node];done)
        | (simp only[k0,j0,k1,j1,if_true,if_false,Tr.set_node]
           first
           |(rw[Tr.set_comm d .tip x y (by omega)];done)
           |rfl
           |simp_all)
    | node v l r=>
      rw[Tr.set_node,Tr.set_node]
      by_cases k0:k=0<;>by_cases j0:j=0<;>by_cases k1:k%2=1<;>by_cases j1:j%2=1<;>
        first
        |omega
        |(simp only[k0,j0,k1,j1,if_true,if_false,Tr.set_node];done)
        | (simp only[k0,j0,k1,j1,if_true,if_false,Tr.set_node]
           first
           |(rw[Tr.set_comm d l x y (by omega)];done)
           |(rw[Tr.set_comm d r x y (by omega)];done)
           |rfl
           |simp_all)
end Go.Proofs.Abs
/- One operation in its region; regions that keep their order. -/
namespace Go.Proofs.Abs
open Go
theorem sY {w:World} {I:Nat→Prop} {α:Nat→Option Nat} {s:Tr} {a:Act} {dst:Option Tmp} {v:AV} {v':Value} {n:Nat} (hs:ff w I α s a.tmps) (hv:Rep w I α v v') (hn:a.tmps.size=n) (hsm:n≤4095):
  ff w I α (bM n s dst v) (a.put dst v').tmps:=by
 cases dst with
 |none=>exact hs
 | some d=>
  simp only[bM]
  split
  ·rename_i hd
   have hd:d<a.tmps.size:=by rw[hn];simpa using hd
   intro t u hu
   simp only[Act.put]
   by_cases e:t=d
   ·subst e
    have hb:t+1<2^12:=by
     have h1:t<n:=by rw[←hn];exact hd
     have h2:(2:Nat)^12=4096:=by decide
     omega
    rw[Tr.get_set_lt 12 s v hb] at hu;cases hu
    exact ⟨v',by simp[hd],hv⟩
   ·rw[Tr.get_set_ne 12 s v e] at hu
    obtain ⟨y,h1,h2⟩:=hs t u hu
    exact ⟨y,by rw[Array.getElem?_setIfInBounds_ne (Ne.symm e)];exact h1,h2⟩
  ·rename_i hd
   have hd:=nc hd
   intro t u hu
   obtain ⟨y,h1,h2⟩:=hs t u hu
   have ht:t<a.tmps.size:=(Array.getElem?_eq_some_iff.1 h1).1
   exact ⟨y,by simp only[Act.put];rw[Array.getElem?_setIfInBounds_ne (by omega)];exact h1,h2⟩
theorem sZ (a:Act) (dst:Option Tmp) (v:Value):(a.put dst v).tmps.size=a.tmps.size:=by cases dst<;>simp[Act.put]
theorem s3 (a:Act) (dst:Option Tmp) (v:Value):(a.put dst v).defers=a.defers:=by cases dst<;>rfl
structure RR (G:aF) (w0:World) (I0:Nat→Prop) (α0:Nat→Option Nat) (H0:ab) (nx0:Nat) (D:List Deferred) (base n:Nat) (L:Nat→Bool) (s:St) (a:Act) (w:World):Prop where
 ex:∃I α,Ev w0 I0 α0 H0 w I α s.heap∧Rel G w I α s.heap∧ff w I α s.slots a.tmps∧(∀i,i<n→L i=false→α (base+i)=none)∧(∀id,s.nx≤id→α id=none)∧
  (∀id,α id≠none→α0 id≠none∨(nx0≤id∧id<s.nx))
 le:base+n≤s.nx
 lo:nx0≤base
 defers:a.defers=D
 size:a.tmps.size=s.n
 small:s.n≤4095
section
variable {P:Program} {G:aF} {call:aI} {w0:World} {I0:Nat→Prop} {α0:Nat→Option Nat} {H0:ab} {nx0:Nat} {D:List Deferred} {base:Nat} {ops:Array Oper}
theorem s4 {s:Tr} {a:Act} {w:World} {I:Nat→Prop} {α:Nat→Option Nat} {o:Oper} {b:Bool} (hs:ff w I α s a.tmps) (h:cw ops.toList o s=some b):Region.wanted o (yielded ops a.tmps)=b:=by
 unfold cw at h
 unfold Region.wanted
 split at h
 ·rename_i hg
  simp only[Option.some.injEq] at h;subst h
  rw[hg]
 ·rename_i j want hg
  rw[hg]
  split at h
  ·rename_i g hj
   rw[eA] at hj
   have hj:ops[j]? =some g:=by simpa using hj
   split at h
   ·rename_i d hd
    split at h
    ·rename_i x hx
     simp only[Option.some.injEq] at h;subst h
     obtain ⟨y,h1,h2⟩:=hs d _ hx
     have:=h2.bool_val;subst this
     simp[yielded,hj,hd,h1]
    ·rename_i hx
     simp only[Option.some.injEq] at h;subst h
     obtain ⟨y,h1,h2⟩:=hs d _ hx
     obtain ⟨vs,rfl,_⟩:=Rep.tuple_iff.1 h2
     simp[yielded,hj,hd,h1]
    ·simp at h
   ·simp at h
  ·simp at h
theorem Et {call:aI} {w:World} {I:Nat→Prop} {α:Nat→Option Nat} {H:ab} {rid nx:Nat} {l:List Oper} {o:Oper} {s:Tr} {a:Act} {e:Eff} (c:Ctx P G call w I α H rid nx) (hs:ff w I α s a.tmps) (h:bE P G l (aS s) o=some e):
  cS P G call w I α H rid nx ((execOp a.eval o).run P w) e:=by
 unfold bE at h
 split at h
 ·rename_i t n parts d ho hd
  split at h
  ·unfold so at h
   split at h
   ·rename_i es hb
    split at h
    ·rename_i el hel
     split at h
     ·rename_i sz hsz
      simp only[Option.some.injEq] at h;subst h
      unfold ll at hb
      split at hb
      ·rename_i ps hps
       obtain ⟨v,hv,e1⟩:=dL hb
       cases e1
       have hp:hZ w I α ps (parts.map fun (i,x)=>(i,a.eval x)).toList:=by
        rw[Array.toList_map];exact pp hs hps
       have hfin:=DV c hp hv hel hsz
       unfold execOp
       simp only[ho]
       simpa [cy] using hfin
      ·simp at hb
     ·simp at h
    ·simp at h
   ·simp at h
  ·exact xN c hs h
 ·exact xN c hs h
theorem xO {L:Nat→Bool} {i:Nat} {o:Oper} {s s':St} {ft:Foot} {a:Act} {w:World} {K:Act→World→Prop} {Q:Exit→Act→World→Prop} {n:Nat} (hcall:bo P G call) (ho:ops[i]? =some o) (hi:i<n) (hL:L i=false)
  (hr:RR G w0 I0 α0 H0 nx0 D base n L s a w) (h:cQ P G call ops.toList (base+i) o s=some (s',ft))
  (hK:∀a' w',RR G w0 I0 α0 H0 nx0 D base n (fun j=>j==i||L j) s' a' w'→K a' w'):wpOp P ops Q i K a w:=by
 obtain ⟨⟨I,α,ev,rel,hs,hres,hfr,hnew⟩,hle,hlo,hD,hsz,hsm⟩:=hr
 unfold wpOp
 simp only[ho]
 unfold cQ at h
 split at h
 ·rename_i hw
  rw[s4 hs hw,if_pos rfl]
  split at h
  ·rename_i e he
   split at h
   ·rename_i v h' nx' ft' hrun
    simp only[Option.some.injEq,Prod.mk.injEq] at h
    obtain ⟨rfl,rfl⟩:=h
    have c:Ctx P G call w I α s.heap (base+i) s.nx:=⟨rel,hres i hi hL,by omega,hfr,hcall⟩
    refine .inl (w8 (Et c hs he 2 v h' nx' ft' hrun) fun v' w' hp=>hK _ _ ?_)
    obtain ⟨⟨I',α',ev',rel',hv,hn'⟩,hle'⟩:=hp
    refine ⟨⟨I',α',ev.trans ev',rel',sY (fun t u hu=> ?_) hv hsz hsm,fun j hj hLj=> ?_,fun id hid=> ?_,fun id hid=> ?_⟩,Nat.le_trans hle hle',hlo,by rw[s3];exact hD,by rw[sZ];exact hsz,hsm⟩
    ·obtain ⟨y,h1,h2⟩:=hs t u hu
     exact ⟨y,h1,h2.ev rel ev'⟩
    ·simp only[Bool.or_eq_false_iff] at hLj
     have hji:j≠i:=by simpa using hLj.1
     cases hh:α' (base+j) with
     |none=>rfl
     |some b=>
      rcases hn' (base+j) (by rw[hh];simp) with h1|h1|h1
      ·exact absurd (hres j hj hLj.2) h1
      ·omega
      ·omega
    ·cases hh:α' id with
     |none=>rfl
     |some b=>
      simp only at hid
      rcases hn' id (by rw[hh];simp) with h1|h1|h1
      ·exact absurd (hfr id (by omega)) h1
      ·omega
      ·omega
    ·simp only
     rcases hn' id hid with h1|h1|h1
     ·rcases hnew id h1 with h2|h2
      ·exact .inl h2
      ·exact .inr ⟨h2.1,by omega⟩
     ·exact .inr ⟨by omega,by omega⟩
     ·exact .inr ⟨by omega,by omega⟩
   ·simp at h
  ·simp at h
 ·rename_i hw
  rw[s4 hs hw,if_neg (by simp)]
  simp only[Option.some.injEq,Prod.mk.injEq] at h
  obtain ⟨rfl,rfl⟩:=h
  refine hK _ _ ⟨⟨I,α,ev,rel,sY hs (Rep.tuple_iff.2 ⟨_,rfl,.nil⟩) hsz hsm,fun j hj hLj=> ?_,hfr,hnew⟩,hle,hlo,by rw[s3];exact hD,by rw[sZ];exact hsz,hsm⟩
  simp only[Bool.or_eq_false_iff] at hLj
  exact hres j hj hLj.2
 ·simp at h
theorem RR.mono {n:Nat} {L L':Nat→Bool} {s:St} {a:Act} {w:World} (h:RR G w0 I0 α0 H0 nx0 D base n L s a w) (hL:∀i,i<n→L' i=false→L i=false):RR G w0 I0 α0 H0 nx0 D base n L' s a w:=by
 obtain ⟨⟨I,α,h1,h2,h3,h4,h5,h6⟩,h7,h8,h9,h10,h11⟩:=h
 exact ⟨⟨I,α,h1,h2,h3,fun i hi hl=>h4 i hi (hL i hi hl),h5,h6⟩,h7,h8,h9,h10,h11⟩
theorem s5 {Q:Exit→Act→World→Prop} (hcall:bo P G call):∀ (rest:List Oper) (i:Nat) (s s':St) (acc feet:List (Nat × Foot)) (a:Act) (w:World),
  rest=ops.toList.drop i→cH P G call ops.toList base rest i s acc=some (s',feet)→RR G w0 I0 α0 H0 nx0 D base ops.size (fun j=>decide (j<i)) s a w→
  (∀a' w',RR G w0 I0 α0 H0 nx0 D base ops.size (fun _=>true) s' a' w'→Q .normal a' w')→wpOps P ops Q (List.range' i rest.length) a w
 |[],i,s,s',acc,feet,a,w,hd,h,hr,hq=>by
  simp only[cH,Option.some.injEq,Prod.mk.injEq] at h
  obtain ⟨rfl,rfl⟩:=h
  simp only[List.length_nil,List.range'_zero,wpOps]
  exact hq _ _ (hr.mono (fun i _ h=>by cases h))
 | o::rest,i,s,s',acc,feet,a,w,hd,h,hr,hq=>by
  have ho:ops[i]? =some o:=by
   have:(ops.toList.drop i)[0]? =some o:=by rw[←hd];rfl
   rw[List.getElem?_drop] at this
   simpa using this
  have hi:i<ops.size:=(Array.getElem?_eq_some_iff.1 ho).1
  have hd':rest=ops.toList.drop (i+1):=by
   have:(ops.toList.drop i).tail=rest:=by rw[←hd];rfl
   rw[←this,List.tail_drop]
  simp only[cH] at h
  split at h
  ·rename_i s1 ft hst
   simp only[List.length_cons,List.range'_succ]
   rw[wpOps_cons]
   refine xO hcall ho hi (by simp) hr hst fun a' w' hr'=> ?_
   refine s5 hcall rest (i+1) s1 s' _ feet a' w' hd' h (hr'.mono fun j _ hj=> ?_) hq
   simp only[decide_eq_false_iff_not,Bool.or_eq_false_iff] at hj⊢
   exact ⟨by simp;omega,by omega⟩
  ·simp at h
end
end Go.Proofs.Abs
