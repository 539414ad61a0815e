/- Fd, List, TelW, Kno, TelP, LawTel, WantW, Want, RightP. -/
import Derived.Test.YtjhggnebkfpgcaaGreatDoorQ1
import Derived.Test.YtjhggnebkfpgcaaGreatDoorQ7
import Derived.KernelRfl
import Derived.Test.YtjhggnebkfpgcaaGreatDoorQ5
import Derived.Test.YtjhggnebkfpgcaaGreatDoorQ6
namespace Go.Proofs.YtjhggnebkfpgcaaGreatDoor
set_option maxRecDepth 20000
open Go Go.RowKit
open Go.Proofs.Abs
def nextH (b:Bool) (h:List Ob) (o:Ob):List Ob:=match b with
 |true=>pushL ltO h o
 |false=>h
def hpS (L:List At) (l:List Ob):List Ob:=l.foldl (fun h o=>match isB o L with
 |true=>pushL ltO h o
 |false=>h) []
theorem hpS_snoc (L:List At) (l:List Ob) (o:Ob):hpS L (l++[o])=match isB o L with
  |true=>pushL ltO (hpS L l) o
  |false=>hpS L l:=by
 unfold hpS
 rw[List.foldl_append]
 rfl
theorem hpS_snoc' (L:List At) (l:List Ob) (o:Ob):hpS L (l++[o])=nextH (isB o L) (hpS L l) o:=hpS_snoc L l o
theorem hpS_ok (L:List At) (l:List Ob):Hp ltO (hpS L l) (hpS L l).length∧(hpS L l).Perm (l.filter fun o=>isB o L):=by
 have gen:∀ (l:List Ob) (h:List Ob),Hp ltO h h.length→Hp ltO (l.foldl (fun h o=>match isB o L with|true=>pushL ltO h o|false=>h) h) (l.foldl (fun h o=>match isB o L with|true=>pushL ltO h o|false=>h) h).length∧(l.foldl (fun h o=>match isB o L with|true=>pushL ltO h o|false=>h) h).Perm (h++l.filter fun o=>isB o L):=by
  intro l
  induction l with
  |nil=>intro h hh;exact ⟨hh,by simp⟩
  | cons o r ih=>
   intro h hh
   rw[List.foldl_cons,List.filter_cons]
   cases hb:isB o L with
   |true=>
    obtain ⟨h1,h2⟩:=ih (pushL ltO h o) (push_heap ordO hh o)
    refine ⟨h1,h2.trans ?_⟩
    rw[if_pos rfl,List.append_cons]
    exact (push_perm h o).append_right _
   |false=>
    rw[if_neg (by simp)]
    exact ih h hh
 have:=gen l [] (fun k a b _ hk=>absurd hk (Nat.not_lt_zero k))
 exact this
theorem hpS_len (L:List At) (l:List Ob):(hpS L l).length≤l.length:=by
 rw[(hpS_ok L l).2.length_eq]
 exact List.length_filter_le _ _
noncomputable def fdW (i n most:Int) (Cs Os:List AV):List Ob→View
 |[]=>fdV0 i n most Cs Os
 |x::r=>fdV1 i n most Cs Os (r.length+1) (flO (x::r))
theorem push_nil (o:Ob):pushL ltO [] o=[o]:=rfl
theorem idxO {l:List Ob} {i:Nat} {o:Ob} (hx:l[i]? =some o):indexAddrA Tryz.prog 72 (.fsl false (l.map obA)) (I (.ofNat i))=some (.fptr (obC o) 0):=
 fsl_index (v:=obA o) (e:=33) (sz:=37) (by kernel_rfl) (by kernel_rfl) (by rw[List.getElem?_map,hx];rfl) rfl
theorem closed_obs:∀l:List Ob,closedAll (l.map obA)=true
 |[]=>rfl
 |o::r=>by rw[List.map_cons,closedAll,closed_ob,closed_obs r];rfl
section
variable {L:List At} {l:List Ob} {most:Int} {Q:AExit→St→Prop}
theorem fd_stop {i:Nat} (hi:i=l.length) (h:List Ob) (hq:Q (.exit 0) (fdW (.ofNat i) (.ofNat l.length) most (L.map atA) (l.map obA) h).st):ALp Tryz.prog opts0.glob 0 (lpCode Tryz.prog 53 4) (fdW (.ofNat i) (.ofNat l.length) most (L.map atA) (l.map obA) h).st Q:=by
 have hL:=closed_ats L
 have hO:=closed_obs l
 have no:ltInt (Int.ofNat i) (Int.ofNat l.length)=false:=ltInt_false.2 (by simp only[Int.ofNat_eq_natCast];omega)
 cases h with
 |nil=>
  refine ALp.round (A:=fdA (obF zO .nilsl .nilsl .nilsl .nilsl) false true 0 []) (V1:=fdV0 0 (.ofNat l.length) most (L.map atA) (l.map obA)) (V2:=fdV0 0 (.ofNat l.length) most (L.map atA) (l.map obA)) (F:=fdV0 (.ofNat i) (.ofNat l.length) most (L.map atA) (l.map obA)) (lk:=[(0,0)]) (lk':=[(0,0)]) base0 aidJ_ok (LsOk.no rfl) .refl ?_
  show wpK Tryz.prog opts0 40 _ _ (fdV0 (.ofNat i) (.ofNat l.length) most (L.map atA) (l.map obA)).st _
  rw[fd_00]
  exact mtF no ⟨⟨⟨⟨rfl,hL⟩,⟨rfl,rfl⟩,⟨rfl,hO⟩,⟨rfl,rfl⟩,⟨rfl,rfl⟩,trivial⟩,⟨⟨rfl,rfl⟩,trivial⟩,⟨rfl,rfl⟩,trivial⟩,hq⟩
 |cons x r=>
  have hc:=closed_flO (x::r)
  refine ALp.round (A:=fdA (obF zO .nilsl .nilsl .nilsl .nilsl) false false 0 []) (V1:=fdV1 0 (.ofNat l.length) most (L.map atA) (l.map obA) (r.length+1) (flO (x::r))) (V2:=fdV1 0 (.ofNat l.length) most (L.map atA) (l.map obA) (r.length+1) (flO (x::r))) (F:=fdV1 (.ofNat i) (.ofNat l.length) most (L.map atA) (l.map obA) (r.length+1) (flO (x::r))) (lk:=[(0,0),(1,1)]) (lk':=[(0,0),(1,1)]) base0 aidJ_ok (LsOk.no rfl) .refl ?_
  show wpK Tryz.prog opts0 40 _ _ (fdV1 (.ofNat i) (.ofNat l.length) most (L.map atA) (l.map obA) (r.length+1) (flO (x::r))).st _
  rw[fd_10]
  exact mtF no ⟨⟨⟨⟨rfl,hL⟩,⟨rfl,rfl⟩,⟨rfl,hO⟩,⟨rfl,rfl⟩,⟨rfl,rfl⟩,trivial⟩,⟨⟨rfl,rfl⟩,trivial⟩,⟨⟨rfl,rfl,rfl,rfl,rfl⟩,trivial⟩,⟨rfl,hc⟩,trivial⟩,hq⟩
theorem fd_step (hb:l.length≤80000) {i:Nat} {o:Ob} (g:l[i]? =some o) {b:Bool} (hi2:SC 52 [obA o,.fsl false (L.map atA)] (.bool b)) (h:List Ob) (hh:h.length≤i) (hn:ALp Tryz.prog opts0.glob 0 (lpCode Tryz.prog 53 4) (fdW (.ofNat (i+1)) (.ofNat l.length) most (L.map atA) (l.map obA) (nextH b h o)).st Q):ALp Tryz.prog opts0.glob 0 (lpCode Tryz.prog 53 4) (fdW (.ofNat i) (.ofNat l.length) most (L.map atA) (l.map obA) h).st Q:=by
 have hL:=closed_ats L
 have hO:=closed_obs l
 have hi:i<l.length:=(List.getElem?_eq_some_iff.1 g).1
 have yes:ltInt (Int.ofNat i) (Int.ofNat l.length)=true:=ltInt_iff.2 (by simp only[Int.ofNat_eq_natCast];omega)
 have hw:wrapA .i64 (Int.ofNat i+1)=Int.ofNat (i+1):=wrapA_i64 (by simp;omega) (by simp;omega)
 have hx:=idxO g
 have fo:=fits_obh o
 cases b with
 | false=>
  simp only[nextH] at hn
  cases h with
  |nil=>
   refine ALp.round (A:=fdA (obC o) false true 0 []) (V1:=fdV0 (.ofNat (i+1)) (.ofNat l.length) most (L.map atA) (l.map obA)) (V2:=fdV0 (.ofNat (i+1)) (.ofNat l.length) most (L.map atA) (l.map obA)) (F:=fdV0 (.ofNat i) (.ofNat l.length) most (L.map atA) (l.map obA)) (lk:=[(0,0)]) (lk':=[(0,0)]) base0 aidJ_ok (LsOk.no rfl) .refl ?_
   show wpK Tryz.prog opts0 40 _ _ (fdV0 (.ofNat i) (.ofNat l.length) most (L.map atA) (l.map obA)).st _
   unfold obA at hi2
   unfold obC at hx fo hi2⊢
   rw[fd_00,hw]
   exact mtT yes ⟨hx,oblB_of fo ⟨hi2,⟨⟨⟨rfl,hL⟩,⟨rfl,rfl⟩,⟨rfl,hO⟩,⟨rfl,rfl⟩,⟨rfl,rfl⟩,trivial⟩,⟨⟨rfl,rfl⟩,trivial⟩,⟨rfl,rfl⟩,trivial⟩,hn⟩⟩
  |cons x r=>
   have hc:=closed_flO (x::r)
   refine ALp.round (A:=fdA (obC o) false false 0 []) (V1:=fdV1 (.ofNat (i+1)) (.ofNat l.length) most (L.map atA) (l.map obA) (r.length+1) (flO (x::r))) (V2:=fdV1 (.ofNat (i+1)) (.ofNat l.length) most (L.map atA) (l.map obA) (r.length+1) (flO (x::r))) (F:=fdV1 (.ofNat i) (.ofNat l.length) most (L.map atA) (l.map obA) (r.length+1) (flO (x::r))) (lk:=[(0,0),(1,1)]) (lk':=[(0,0),(1,1)]) base0 aidJ_ok (LsOk.no rfl) .refl ?_
   show wpK Tryz.prog opts0 40 _ _ (fdV1 (.ofNat i) (.ofNat l.length) most (L.map atA) (l.map obA) (r.length+1) (flO (x::r))).st _
   unfold obA at hi2
   unfold obC at hx fo hi2⊢
   rw[fd_10,hw]
   exact mtT yes ⟨hx,oblB_of fo ⟨hi2,⟨⟨⟨rfl,hL⟩,⟨rfl,rfl⟩,⟨rfl,hO⟩,⟨rfl,rfl⟩,⟨rfl,rfl⟩,trivial⟩,⟨⟨rfl,rfl⟩,trivial⟩,⟨⟨rfl,rfl,rfl,rfl,rfl⟩,trivial⟩,⟨rfl,hc⟩,trivial⟩,hn⟩⟩
 | true=>
  simp only[nextH] at hn
  cases h with
  |nil=>
   rw[push_nil] at hn
   have hp:=ren3z (K':=20) (m:=13) (m':=43) (H2:=[(0,some (.cells [.nilsl]))]) (a:=hpI) (.iface _ (.ptr _ _ _ rfl)) (hpush0 o) (by omega) (by omega) (by omega) rfl (by omega) (closed_flO _)
   refine ALp.round (A:=fdA (obC o) true true 0 (flO [o])) (V1:=fdV1 (.ofNat (i+1)) (.ofNat l.length) most (L.map atA) (l.map obA) 1 (flO [o])) (V2:=fdV1 (.ofNat (i+1)) (.ofNat l.length) most (L.map atA) (l.map obA) 1 (flO [o])) (F:=fdV0 (.ofNat i) (.ofNat l.length) most (L.map atA) (l.map obA)) (lk:=[(0,0),(1,20)]) (lk':=[(0,0)]) base0 aidJ_ok (LsOk.no rfl) .refl ?_
   show wpK Tryz.prog opts0 40 _ _ (fdV0 (.ofNat i) (.ofNat l.length) most (L.map atA) (l.map obA)).st _
   unfold obA at hi2 hp
   unfold obC at hx fo hi2 hp⊢
   rw[fd_01,hw]
   exact mtT yes ⟨hx,oblB_of fo ⟨hi2,hp,⟨⟨⟨rfl,hL⟩,⟨rfl,rfl⟩,⟨rfl,hO⟩,⟨rfl,rfl⟩,⟨rfl,rfl⟩,trivial⟩,⟨⟨rfl,rfl⟩,trivial⟩,⟨⟨rfl,rfl,rfl,rfl,rfl⟩,trivial⟩,⟨rfl,closed_flO _⟩,trivial⟩,hn⟩⟩
  | cons x r=>
   have hlen:=push_len (lt:=ltO) (x::r) o
   simp only[List.length_cons] at hh hlen
   have hp:=ren3 (K':=20) (m:=14) (m':=44) (H2:=[(1,some (.cells (flO (x::r)))),(0,some (.cells [.rsl true 1 0 (r.length+1) 37]))]) (a:=hpI) (.iface _ (.ptr _ _ _ rfl)) (hpush1 (l:=x::r) (by simp only[List.length_cons];omega) o) (by omega) (by omega) (by omega) rfl rfl (by omega) (closed_flO _) (closed_flO _)
   revert hn hp
   generalize hPL:pushL ltO (x::r) o=PL
   rw[hPL] at hlen
   obtain ⟨y,q,rfl⟩:∃y q,PL=y::q:=by
    cases PL with
    |nil=>simp at hlen
    |cons y q=>exact ⟨y,q,rfl⟩
   simp only[List.length_cons] at hlen
   intro hn hp
   have hn:ALp Tryz.prog opts0.glob 0 (lpCode Tryz.prog 53 4) (fdV1 (.ofNat (i+1)) (.ofNat l.length) most (L.map atA) (l.map obA) (q.length+1) (flO (y::q))).st Q:=hn
   rw[hlen] at hn
   refine ALp.round (A:=fdA (obC o) true false (r.length+1) (flO (y::q))) (V1:=fdV1 (.ofNat (i+1)) (.ofNat l.length) most (L.map atA) (l.map obA) (r.length+1+1) (flO (y::q))) (V2:=fdV1 (.ofNat (i+1)) (.ofNat l.length) most (L.map atA) (l.map obA) (r.length+1+1) (flO (y::q))) (F:=fdV1 (.ofNat i) (.ofNat l.length) most (L.map atA) (l.map obA) (r.length+1) (flO (x::r))) (lk:=[(0,0),(1,20)]) (lk':=[(0,0),(1,1)]) base0 aidJ_ok (LsOk.no rfl) .refl ?_
   show wpK Tryz.prog opts0 40 _ _ (fdV1 (.ofNat i) (.ofNat l.length) most (L.map atA) (l.map obA) (r.length+1) (flO (x::r))).st _
   unfold obA at hi2 hp
   unfold obC at hx fo hi2 hp⊢
   rw[fd_11,hw]
   exact mtT yes ⟨hx,oblB_of fo ⟨hi2,hp,⟨⟨⟨rfl,hL⟩,⟨rfl,rfl⟩,⟨rfl,hO⟩,⟨rfl,rfl⟩,⟨rfl,rfl⟩,trivial⟩,⟨⟨rfl,rfl⟩,trivial⟩,⟨⟨rfl,rfl,rfl,rfl,rfl⟩,trivial⟩,⟨rfl,closed_flO _⟩,trivial⟩,hn⟩⟩
theorem fd_run (hb:l.length≤80000) (his:∀o∈l,SC 52 [obA o,.fsl false (L.map atA)] (.bool (isB o L))) (hq:Q (.exit 0) (fdW (.ofNat l.length) (.ofNat l.length) most (L.map atA) (l.map obA) (hpS L l)).st):∀m i:Nat,i+m=l.length→ALp Tryz.prog opts0.glob 0 (lpCode Tryz.prog 53 4) (fdW (.ofNat i) (.ofNat l.length) most (L.map atA) (l.map obA) (hpS L (l.take i))).st Q
 |0,i,hi=>by
  rw[Nat.add_zero] at hi
  subst hi
  rw[List.take_of_length_le (Nat.le_refl _)]
  exact fd_stop rfl _ hq
 |m+1,i,hi=>by
  have hlt:i<l.length:=by omega
  have g:=List.getElem?_eq_getElem hlt
  have ih:=fd_run hb his hq m (i+1) (by omega)
  rw[take_snoc g,hpS_snoc'] at ih
  have h1:=hpS_len L (l.take i)
  rw[List.length_take] at h1
  exact fd_step hb g (his _ (List.getElem_mem hlt)) _ (by omega) ih
end
structure FS where
 live:List Ob
 junk:List Ob
 out:List (List UInt8)
def stepS (s:FS):FS:=match (popL ltO s.live)[s.live.length-1]? with
 |none=>s
 |some x=>⟨(popL ltO s.live).take (s.live.length-1),x::s.junk,s.out++[x.id]⟩
def goS (most:Int) (s:FS):Bool:=ltInt most 0||ltInt (.ofNat s.out.length) most
def runS (most:Int):Nat→FS→FS
 |0,s=>s
 |f+1,s=>match goS most s with
  |true=>runS most f (stepS s)
  |false=>s
noncomputable def fdZ (most:Int) (s:FS):View:=match s.out with
 |[]=>fdY0 most s.live.length (flO (s.live++s.junk))
 |_::_=>fdY1 most s.live.length (flO (s.live++s.junk)) s.out.length (s.out.map .str)
section
variable {most:Int} {Q:AExit→St→Prop}
theorem fo_stop {s:FS} (hs:s.out≠[]∨s.live≠[]) (h:s.live=[]∨goS most s=false) (hq:Q (.exit 2) (fdZ most s).st):ALp Tryz.prog opts0.glob 0 (lpCode Tryz.prog 53 10) (fdZ most s).st Q:=by
 obtain ⟨p,t,out⟩:=s
 have hc:=closed_flO (p++t)
 have hs2:=closed_strs out
 cases p with
 | nil=>
  cases out with
  |nil=>rcases hs with h|h<;>exact absurd rfl h
  |cons a r=>
   have hq:Q (.exit 2) (fdY1 most 0 (flO ([]++t)) (a::r).length ((a::r).map .str)).st:=hq
   refine ALp.round (A:=foA 0 [] []) (V1:=fdY1 most 0 (flO ([]++t)) (a::r).length ((a::r).map .str)) (V2:=fdY1 most 0 (flO ([]++t)) (a::r).length ((a::r).map .str)) (F:=fdY1 most 0 (flO ([]++t)) (a::r).length ((a::r).map .str)) (lk:=[(0,0),(1,1),(2,2)]) (lk':=[(0,0),(1,1),(2,2)]) base0 aidJ_ok (LsOk.no rfl) .refl ?_
   show wpK Tryz.prog opts0 40 _ _ (fdY1 most 0 (flO ([]++t)) (a::r).length ((a::r).map .str)).st _
   rw[fo_1e]
   exact ⟨⟨⟨⟨rfl,rfl⟩,trivial⟩,⟨⟨rfl,rfl⟩,⟨rfl,rfl,rfl,rfl,rfl⟩,trivial⟩,⟨⟨rfl,rfl,rfl,rfl,rfl⟩,trivial⟩,⟨rfl,hc⟩,⟨rfl,hs2⟩,trivial⟩,hq⟩
 | cons x q=>
  have hg:goS most ⟨x::q,t,out⟩=false:=by
   rcases h with h|h
   ·cases h
   ·exact h
  simp only[goS,Bool.or_eq_false_iff] at hg
  cases out with
  |nil=>
   have hq:Q (.exit 2) (fdY0 most (q.length+1) (flO ((x::q)++t))).st:=hq
   refine ALp.round (A:=foA q.length [] (obF zO .nilsl .nilsl .nilsl .nilsl)) (V1:=fdY1 most q.length [] 1 []) (V2:=fdY1 most q.length [] 1 []) (F:=fdY0 most (q.length+1) (flO ((x::q)++t))) (lk:=[(0,0),(1,1),(2,25)]) (lk':=[(0,0),(1,1)]) base0 aidJ_ok (LsOk.no rfl) .refl ?_
   show wpK Tryz.prog opts0 40 _ _ (fdY0 most (q.length+1) (flO ((x::q)++t))).st _
   rw[fo_01]
   exact mtF hg.1 (mtF hg.2 ⟨⟨⟨⟨rfl,rfl⟩,⟨rfl,rfl⟩,trivial⟩,⟨⟨rfl,rfl⟩,trivial⟩,⟨⟨rfl,rfl,rfl,rfl,rfl⟩,trivial⟩,⟨rfl,hc⟩,trivial⟩,hq⟩)
  |cons a r=>
   have hq:Q (.exit 2) (fdY1 most (q.length+1) (flO ((x::q)++t)) (a::r).length ((a::r).map .str)).st:=hq
   refine ALp.round (A:=foA q.length [] (obF zO .nilsl .nilsl .nilsl .nilsl)) (V1:=fdY1 most q.length [] ((a::r).length+1) []) (V2:=fdY1 most q.length [] ((a::r).length+1) []) (F:=fdY1 most (q.length+1) (flO ((x::q)++t)) (a::r).length ((a::r).map .str)) (lk:=[(0,0),(1,1),(2,26)]) (lk':=[(0,0),(1,1),(2,2)]) base0 aidJ_ok (LsOk.no rfl) .refl ?_
   show wpK Tryz.prog opts0 40 _ _ (fdY1 most (q.length+1) (flO ((x::q)++t)) (a::r).length ((a::r).map .str)).st _
   rw[fo_11]
   exact mtF hg.1 (mtF hg.2 ⟨⟨⟨⟨rfl,rfl⟩,trivial⟩,⟨⟨rfl,rfl⟩,⟨rfl,rfl,rfl,rfl,rfl⟩,trivial⟩,⟨⟨rfl,rfl,rfl,rfl,rfl⟩,trivial⟩,⟨rfl,hc⟩,⟨rfl,hs2⟩,trivial⟩,hq⟩)
theorem fo_step {s:FS} (hb:s.live.length+s.out.length≤80000) (hp:Hp ltO s.live s.live.length) (h0:s.live≠[]) (hg:goS most s=true) (hn:ALp Tryz.prog opts0.glob 0 (lpCode Tryz.prog 53 10) (fdZ most (stepS s)).st Q):ALp Tryz.prog opts0.glob 0 (lpCode Tryz.prog 53 10) (fdZ most s).st Q:=by
 obtain ⟨p,t,out⟩:=s
 have hlen:0<p.length:=by
  cases p with
  |nil=>exact absurd rfl h0
  |cons _ _=>simp
 obtain ⟨x,r,h1,h2,h3,_,_,_,h7⟩:=pop_ex ordO hp hlen
 obtain ⟨n,hnl⟩:∃n,p.length=n+1:=⟨p.length-1,by omega⟩
 simp only at hb
 have hst:stepS ⟨p,t,out⟩=⟨r,x::t,out++[x.id]⟩:=by
  unfold stepS
  simp only[h1,h2]
 rw[hst] at hn
 have hrl:r.length=n:=by simp only at h7;omega
 have hn:ALp Tryz.prog opts0.glob 0 (lpCode Tryz.prog 53 10) (fdY1 most n (flO (popL ltO p++t)) (out.length+1) ((out++[x.id]).map .str)).st Q:=by
  have e:fdZ most ⟨r,x::t,out++[x.id]⟩=fdY1 most n (flO (popL ltO p++t)) (out.length+1) ((out++[x.id]).map .str):=by
   have e1:flO (popL ltO p++t)=flO (r++x::t):=by rw[h3,List.append_assoc];rfl
   have e2:(out++[x.id]).length=out.length+1:=by simp
   rw[e1]
   unfold fdZ
   cases out with
   |nil=>simp only[List.nil_append,hrl];rfl
   |cons a q=>simp only[List.cons_append,hrl] at e2⊢;rw[e2]
  rw[e] at hn
  exact hn
 simp only at h1
 have hx:(popL ltO p)[n]? =some x:=by rw[show n=p.length-1 by omega];exact h1
 have hcc:=closed_flO (popL ltO p++t)
 have hso:=closed_strs (out++[x.id])
 have hpo:=hpop (own:=true) (t:=t) hnl (by omega) hx
 cases out with
 | nil=>
  have b:=fun m m' (hm:m≤m')=>ren2 (Z:=0) (K:=1) (m:=m) (m':=m') (args2:=[hpI]) (H2:=[(1,some (.cells (flO (p++t)))),(0,some (.cells [.rsl true 1 0 (n+1) 37]))]) (v2:= .iface 33 (obA x)) (c2:=[.rsl true 1 0 (n+1) 37]) (c2':=[.rsl true 1 0 n 37]) hpo (by decide) rfl rfl ⟨.iface _ (.ptr _ _ _ rfl),trivial⟩ ⟨.rsl _ _ _ _ _ _ rfl,trivial⟩ ⟨.rsl _ _ _ _ _ _ rfl,trivial⟩ (.same _ (clO x)) (closed_flO _) (closed_flO _) hm
  refine ALp.round (A:=foA n (flO (popL ltO p++t)) (obC x)) (V1:=fdY1 most n (flO (popL ltO p++t)) 1 [.str x.id]) (V2:=fdY1 most n (flO (popL ltO p++t)) 1 [.str x.id]) (F:=fdY0 most (n+1) (flO (p++t))) (lk:=[(0,0),(1,1),(2,25)]) (lk':=[(0,0),(1,1)]) base0 aidJ_ok (LsOk.no rfl) .refl ?_
  show wpK Tryz.prog opts0 40 _ _ (fdY0 most p.length (flO (p++t))).st _
  rw[hnl]
  unfold obA at b
  unfold obC at b⊢
  rw[fo_01]
  simp only[goS,Bool.or_eq_true] at hg
  refine mtB_of (fun _=> ?_) (fun e=>mtB_of (fun _=> ?_) (fun e2=> ?_))
  ·exact ⟨b _ _ (by omega),⟨⟨⟨rfl,rfl⟩,trivial⟩,⟨⟨rfl,rfl⟩,⟨rfl,rfl,rfl,rfl,rfl⟩,trivial⟩,⟨⟨rfl,rfl,rfl,rfl,rfl⟩,trivial⟩,⟨rfl,hcc⟩,⟨rfl,rfl⟩,trivial⟩,hn⟩
  ·exact ⟨b _ _ (by omega),⟨⟨⟨rfl,rfl⟩,trivial⟩,⟨⟨rfl,rfl⟩,⟨rfl,rfl,rfl,rfl,rfl⟩,trivial⟩,⟨⟨rfl,rfl,rfl,rfl,rfl⟩,trivial⟩,⟨rfl,hcc⟩,⟨rfl,rfl⟩,trivial⟩,hn⟩
  ·rcases hg with h|h
   ·rw[e] at h;cases h
   ·rw[show ltInt (Int.ofNat ([]:List (List UInt8)).length) most=ltInt 0 most from rfl,e2] at h;cases h
 | cons a q=>
  simp only[List.length_cons] at hb
  have b:=fun m m' (hm:m≤m')=>ren2 (Z:=0) (K:=1) (m:=m) (m':=m') (args2:=[hpI]) (H2:=[(1,some (.cells (flO (p++t)))),(0,some (.cells [.rsl true 1 0 (n+1) 37]))]) (v2:= .iface 33 (obA x)) (c2:=[.rsl true 1 0 (n+1) 37]) (c2':=[.rsl true 1 0 n 37]) hpo (by decide) rfl rfl ⟨.iface _ (.ptr _ _ _ rfl),trivial⟩ ⟨.rsl _ _ _ _ _ _ rfl,trivial⟩ ⟨.rsl _ _ _ _ _ _ rfl,trivial⟩ (.same _ (clO x)) (closed_flO _) (closed_flO _) hm
  have os1:(((a::q).map AV.str)++[AV.str x.id])=((a::q)++[x.id]).map .str:=by simp
  have c1:(Nat.ble (((a::q).length+1)*16) 140737488355328)=true:=ble_of (by simp only[List.length_cons];omega)
  have c2:Nat.beq (lenN ((a::q).map AV.str)) ((a::q).length*1)=true:=by rw[beq_iff,lenN_eq,List.length_map,Nat.mul_one]
  refine ALp.round (A:=foA n (flO (popL ltO p++t)) (obC x)) (V1:=fdY1 most n (flO (popL ltO p++t)) ((a::q).length+1) (((a::q)++[x.id]).map .str)) (V2:=fdY1 most n (flO (popL ltO p++t)) ((a::q).length+1) (((a::q)++[x.id]).map .str)) (F:=fdY1 most (n+1) (flO (p++t)) (a::q).length ((a::q).map .str)) (lk:=[(0,0),(1,1),(2,26)]) (lk':=[(0,0),(1,1),(2,2)]) base0 aidJ_ok (LsOk.no rfl) .refl ?_
  show wpK Tryz.prog opts0 40 _ _ (fdY1 most p.length (flO (p++t)) (a::q).length ((a::q).map .str)).st _
  rw[hnl]
  unfold obA at b
  unfold obC at b⊢
  rw[fo_11]
  simp only[goS,Bool.or_eq_true] at hg
  refine mtB_of (fun _=> ?_) (fun e=>mtB_of (fun _=> ?_) (fun e2=> ?_))
  ·exact ⟨b _ _ (by omega),oblB_of (and3 rfl c1 rfl) (oblB_of c2 ⟨⟨⟨⟨rfl,rfl⟩,trivial⟩,⟨⟨rfl,rfl⟩,⟨rfl,rfl,rfl,rfl,rfl⟩,trivial⟩,⟨⟨rfl,rfl,rfl,rfl,rfl⟩,trivial⟩,⟨rfl,hcc⟩,⟨os1,hso⟩,trivial⟩,hn⟩)⟩
  ·exact ⟨b _ _ (by omega),oblB_of (and3 rfl c1 rfl) (oblB_of c2 ⟨⟨⟨⟨rfl,rfl⟩,trivial⟩,⟨⟨rfl,rfl⟩,⟨rfl,rfl,rfl,rfl,rfl⟩,trivial⟩,⟨⟨rfl,rfl,rfl,rfl,rfl⟩,trivial⟩,⟨rfl,hcc⟩,⟨os1,hso⟩,trivial⟩,hn⟩)⟩
  ·rcases hg with h|h
   ·rw[e] at h;cases h
   ·rw[e2] at h;cases h
theorem step_ok {s:FS} (hp:Hp ltO s.live s.live.length) (h0:s.live≠[]):∃x r,stepS s=⟨r,x::s.junk,s.out++[x.id]⟩∧Hp ltO r r.length∧r.length+1=s.live.length:=by
 have hlen:0<s.live.length:=by
  cases h:s.live with
  |nil=>exact absurd h h0
  |cons _ _=>simp
 obtain ⟨x,r,h1,h2,h3,_,h5,_,h7⟩:=pop_ex ordO hp hlen
 exact ⟨x,r,by unfold stepS;simp only[h1,h2],h5,by omega⟩
theorem fo_run:∀ (f:Nat) (s:FS),s.live.length=f→s.live.length+s.out.length≤80000→Hp ltO s.live s.live.length→(s.out≠[]∨s.live≠[])→Q (.exit 2) (fdZ most (runS most f s)).st→ALp Tryz.prog opts0.glob 0 (lpCode Tryz.prog 53 10) (fdZ most s).st Q
 |0,s,hf,_,_,hs,hq=>fo_stop hs (.inl (List.length_eq_zero_iff.1 hf)) hq
 | f+1,s,hf,hb,hp,hs,hq=>by
  have h0:s.live≠[]:=fun h=>by rw[h] at hf;cases hf
  rw[runS] at hq
  cases hg:goS most s with
  |false=>
   rw[hg] at hq
   exact fo_stop hs (.inr hg) hq
  |true=>
   rw[hg] at hq
   obtain ⟨x,r,e,h5,h6⟩:=step_ok hp h0
   refine fo_step hb hp h0 hg (fo_run f (stepS s) ?_ ?_ ?_ ?_ hq)
   ·rw[e];simp only;omega
   ·rw[e];simp only[List.length_append,List.length_singleton];omega
   ·rw[e];exact h5
   ·rw[e];exact .inl (by simp)
end
theorem fo_at:loopsAt (fnCode Tryz.prog 53) 10=[lpCode Tryz.prog 53 10]:=by kernel_rfl
theorem fd_at:loopsAt (fnCode Tryz.prog 53) 4=[lpCode Tryz.prog 53 4]:=by kernel_rfl
def findS (most:Int) (L:List At) (l:List Ob):List (List UInt8):=(runS most (hpS L l).length ⟨hpS L l,[],[]⟩).out
theorem good_strF (s:List UInt8):goodEl 1 (.str s):=⟨rfl,rfl⟩
theorem find_sem' {L:List At} {l:List Ob} (hb:l.length≤80000) (his:∀o∈l,SC 52 [obA o,.fsl false (L.map atA)] (.bool (isB o L))) (most:Int):SC 53 [.fsl false (l.map obA),.fsl false (L.map atA),I most] (.fsl false ((findS most L l).map .str)):=by
 have hL:=closed_ats L
 have hO:=closed_obs l
 have hcl:closedAll [.fsl false (l.map obA),.fsl false (L.map atA),I most]=true:=by simp only[closedAll,closedA,hL,hO,Bool.and_self]
 have hlen:lenN (l.map obA)=l.length:=by rw[lenN_eq,List.length_map]
 have hrun:=fun (Q:AExit→St→Prop) hq=>fd_run (L:=L) (most:=most) (Q:=Q) hb his hq l.length 0 (Nat.zero_add _)
 have hok:=(hpS_ok L l).1
 have hln:=hpS_len L l
 rw[List.take_zero] at hrun
 unfold findS
 generalize hpS L l=h at hrun hok hln⊢
 cases h with
 | nil=>
  refine fnK_semX (A:=aidJ [] [(4,fdL0 (.ofNat (lenN (l.map obA))) most (L.map atA) (l.map obA)),(10,foL [(0,0)] (fdX0 most) (fdX0 most))] noSem [] []) base0 aidJ_ok
   (fnLs_of (LsOk.at2 rfl fd_at fo_at (fun st Q hs=> .seen base0.glob hs.1 (by
    have h2:=hs.2
    rw[hlen] at h2⊢
    exact hrun Q h2)) (fun st Q hs=> .seen base0.glob hs.1 (by
    refine ALp.round (A:=foA 0 [] []) (V1:=fdX0 most) (V2:=fdX0 most) (F:=fdX0 most) (lk:=[(0,0)]) (lk':=[(0,0)]) base0 aidJ_ok (LsOk.no rfl) .refl ?_
    rw[fo_x]
    exact ⟨⟨⟨⟨rfl,rfl⟩,⟨rfl,rfl⟩,trivial⟩,⟨⟨rfl,rfl⟩,trivial⟩,⟨rfl,rfl⟩,trivial⟩,hs.2⟩)))) hcl ?_
  rw[fd_fnx]
  exact ⟨⟨⟨⟨rfl,hL⟩,⟨rfl,rfl⟩,⟨rfl,hO⟩,⟨rfl,rfl⟩,⟨rfl,rfl⟩,trivial⟩,⟨⟨rfl,rfl⟩,trivial⟩,⟨rfl,rfl⟩,trivial⟩,⟨⟨⟨rfl,rfl⟩,⟨rfl,rfl⟩,trivial⟩,⟨⟨rfl,rfl⟩,trivial⟩,⟨rfl,rfl⟩,trivial⟩,⟨.nilsl,(Frz.closed _ rfl).out,rfl,.nil⟩⟩
 | cons x r=>
  have hc:=closed_flO (x::r)
  have hfo:=fun (Q:AExit→St→Prop)=>fo_run (most:=most) (Q:=Q) (x::r).length ⟨x::r,[],[]⟩ rfl (by simp only[List.length_nil,Nat.add_zero];omega) hok (.inr (by simp))
  generalize runS most (x::r).length ⟨x::r,[],[]⟩=s at hfo⊢
  obtain ⟨p,t,out⟩:=s
  have e0:fdZ most ⟨x::r,[],[]⟩=fdY0 most (r.length+1) (flO (x::r)):=by unfold fdZ;simp only[List.append_nil];rfl
  rw[e0] at hfo
  have L1:∀ (st:St) (Q:AExit→St→Prop),fdL1 (.ofNat (lenN (l.map obA))) most (L.map atA) (l.map obA) (r.length+1) (flO (x::r)) st Q→AWp Tryz.prog opts0.glob 0 (.loop (lpCode Tryz.prog 53 4)) st Q:=fun st Q hs=> .seen base0.glob hs.1 (by
    have h2:=hs.2
    rw[hlen] at h2⊢
    exact hrun Q h2)
  cases out with
  | nil=>
   refine fnK_semX (A:=aidJ [] [(4,fdL1 (.ofNat (lenN (l.map obA))) most (L.map atA) (l.map obA) (r.length+1) (flO (x::r))),(10,foL [(0,0),(1,1)] (fdY0 most (r.length+1) (flO (x::r))) (fdY0 most p.length (flO (p++t))))] noSem [] []) base0 aidJ_ok
    (fnLs_of (LsOk.at2 rfl fd_at fo_at L1 (fun st Q hs=> .seen base0.glob hs.1 (hfo Q hs.2)))) hcl ?_
   rw[fd_fn0]
   exact ⟨⟨⟨⟨rfl,hL⟩,⟨rfl,rfl⟩,⟨rfl,hO⟩,⟨rfl,rfl⟩,⟨rfl,rfl⟩,trivial⟩,⟨⟨rfl,rfl⟩,trivial⟩,⟨rfl,rfl⟩,trivial⟩,⟨⟨⟨rfl,rfl⟩,⟨rfl,rfl⟩,trivial⟩,⟨⟨rfl,rfl⟩,trivial⟩,⟨⟨rfl,rfl,rfl,rfl,rfl⟩,trivial⟩,⟨rfl,hc⟩,trivial⟩,⟨.nilsl,(Frz.closed _ rfl).out,rfl,.nil⟩⟩
  | cons a q=>
   have hso:=closed_strs (a::q)
   refine fnK_semX (A:=aidJ [] [(4,fdL1 (.ofNat (lenN (l.map obA))) most (L.map atA) (l.map obA) (r.length+1) (flO (x::r))),(10,foL [(0,0),(1,1)] (fdY0 most (r.length+1) (flO (x::r))) (fdY1 most p.length (flO (p++t)) (a::q).length ((a::q).map .str)))] noSem [] []) base0 aidJ_ok
    (fnLs_of (LsOk.at2 rfl fd_at fo_at L1 (fun st Q hs=> .seen base0.glob hs.1 (hfo Q hs.2)))) hcl ?_
   rw[fd_fn1]
   exact ⟨⟨⟨⟨rfl,hL⟩,⟨rfl,rfl⟩,⟨rfl,hO⟩,⟨rfl,rfl⟩,⟨rfl,rfl⟩,trivial⟩,⟨⟨rfl,rfl⟩,trivial⟩,⟨rfl,rfl⟩,trivial⟩,⟨⟨⟨rfl,rfl⟩,⟨rfl,rfl⟩,trivial⟩,⟨⟨rfl,rfl⟩,trivial⟩,⟨⟨rfl,rfl,rfl,rfl,rfl⟩,trivial⟩,⟨rfl,hc⟩,trivial⟩,⟨.fsl false ((a::q).map .str),(Frz.row rfl rfl (flat_strs _).symm (by rw[List.length_map]) (fun e he=>by obtain ⟨a,_,rfl⟩:=List.mem_map.1 he;exact good_strF a) hso).out,hso,.refl _⟩⟩
theorem pick_len (n:Int) {N:Nat} (hN:N≤9223372036854775807):∃k,k≤N∧SC 23 [I n,I (wrapA .i64 (Int.ofNat N+1))] (I (.ofNat k)):=by
 have run:∀ (m r:Int),beqInt m 0=false→(ltInt (n.tmod m) 0=true→wrapA .i64 (n.tmod m+m)=r)→(ltInt (n.tmod m) 0=false→n.tmod m=r)→SC 23 [I n,I m] (I r):=fun m r h0 h1 h2=>by
  refine fnK_sem (A:=aid0) base0 aidOk0 (fnLs_of (LsOk.no rfl)) rfl ?_
  rw[pick_fn]
  refine oblB_of (by rw[h0];rfl) (mtB_of (fun h=> ?_) (fun h=> ?_))
  ·exact fin_int (by rw[h1 h])
  ·exact fin_int (by rw[h2 h])
 by_cases hb:N=9223372036854775807
 ·subst hb
  have hm:wrapA .i64 (Int.ofNat 9223372036854775807+1)= -9223372036854775808:=by kernel_rfl
  rw[hm]
  have e:n.tmod (-9223372036854775808)=n.tmod 9223372036854775808:=Int.tmod_neg n _
  have h1:=Int.tmod_lt_of_pos n (b:=9223372036854775808) (by omega)
  have h2:=Int.lt_tmod_of_pos n (b:=9223372036854775808) (by omega)
  rw[←e] at h1 h2
  by_cases h:n.tmod (-9223372036854775808)<0
  ·refine ⟨(n.tmod (-9223372036854775808)+9223372036854775808).toNat,by omega,run _ _ rfl (fun _=> ?_) (fun h3=>absurd (ltInt_false.1 h3) (by omega))⟩
   generalize n.tmod (-9223372036854775808)=x at h h1 h2
   rw[wrapA_eq]
   simp only[IntKind.wrap,IntKind.signed,IntKind.bits,Int.ofNat_eq_natCast]
   simp
   omega
  ·refine ⟨(n.tmod (-9223372036854775808)).toNat,by omega,run _ _ rfl (fun h3=>absurd (ltInt_iff.1 h3) h) (fun _=> ?_)⟩
   simp only[Int.ofNat_eq_natCast]
   omega
 ·have hm:wrapA .i64 (Int.ofNat N+1)=(N:Int)+1:=by
   rw[wrapA_i64 (by simp only[Int.ofNat_eq_natCast];omega) (by simp only[Int.ofNat_eq_natCast];omega)]
   rfl
  rw[hm]
  have h1:=Int.tmod_lt_of_pos n (b:=(N:Int)+1) (by omega)
  have h2:=Int.lt_tmod_of_pos n (b:=(N:Int)+1) (by omega)
  have h0:beqInt ((N:Int)+1) 0=false:=beqInt_false.2 (by omega)
  by_cases h:n.tmod ((N:Int)+1)<0
  ·refine ⟨(n.tmod ((N:Int)+1)+((N:Int)+1)).toNat,by omega,run _ _ h0 (fun _=> ?_) (fun h3=>absurd (ltInt_false.1 h3) (by omega))⟩
   rw[wrapA_i64 (by omega) (by omega)]
   simp only[Int.ofNat_eq_natCast]
   omega
  ·refine ⟨(n.tmod ((N:Int)+1)).toNat,by omega,run _ _ h0 (fun h3=>absurd (ltInt_iff.1 h3) h) (fun _=> ?_)⟩
   simp only[Int.ofNat_eq_natCast]
   omega
theorem sl_takeL {t e:TypeId} {sz j:Nat} {R:List AV} (h1:elemOfA Tryz.prog t=some e) (h2:sizeA Tryz.prog e=some sz) (hh:headSize sz R=true) (hj:j≤R.length):sliceA Tryz.prog t (.fsl false R) none (some (I (.ofNat j))) none=some (.val (.fsl false (R.take j))):=by
 have h:sliceS Tryz.prog t (.fsl false R) none (some (I (.ofNat j))) none=some (.obl (true&&(true&&(headSize sz R&&(Nat.ble 0 j&&Nat.ble j (lenN R))))) (.val (.fsl false ((R.drop 0).take (j-0))))):=by
  unfold sliceS
  simp only[optS,natS,h1,h2]
  rfl
 have:=sliceS_ok h
 simp only[ES.ok] at this
 have:=this (by rw[hh,lenN_eq];simp[hj])
 simpa using this
theorem head_rwL:∀l:List Rw,headSize 4 (l.map rwA)=true
 |[]=>rfl
 |_::_=>rfl
def chI (i:Nat):List UInt8:=[UInt8.ofNat (97+i)]
def chS (i:Nat):List UInt8:=[107]++chI i
theorem conv_ch:∀i,i<12→convA Tryz.prog 23 9 (.fsl true [.int .u8 (wrapA .u8 (wrapA .i64 (97+Int.ofNat i)))])=some (.val (.str (chI i)))
 |0,_=>by kernel_rfl
 |1,_=>by kernel_rfl
 |2,_=>by kernel_rfl
 |3,_=>by kernel_rfl
 |4,_=>by kernel_rfl
 |5,_=>by kernel_rfl
 |6,_=>by kernel_rfl
 |7,_=>by kernel_rfl
 |8,_=>by kernel_rfl
 |9,_=>by kernel_rfl
 |10,_=>by kernel_rfl
 |11,_=>by kernel_rfl
 |n+12,h=>absurd h (by omega)
structure OxL (o:Ob):Prop where
 h:OkH o
 c:∀x∈o.cust,x.name∈cnL
 d:o.d0.has=true
theorem oxl_of {o:Ob} (h:OxF o) {s:List UInt8} (hs:s.length≤8):OxL {o with id:=s}:=by
 have ok:=okay_of h
 refine ⟨⟨⟨ok.fit.n,ok.fit.l,ok.fit.c,ok.fit.m⟩,fun k=> ?_⟩,fun x hx=>(h.i.c3 x hx).1,h.i.dat⟩
 have hg:=ok.g k
 cases k with
 | uid=>exact ⟨by simp[getK],fun x hx=>by
   simp only[getK,List.mem_singleton] at hx;subst hx;exact ok_txt hs⟩
 |_=>exact ⟨hg.n,hg.i⟩
noncomputable def lsW (i:Int) (Ls Ps:List AV):List Ob→View
 |[]=>lsV0 i Ls Ps
 |x::r=>lsV1 i Ls Ps (r.length+1) (flO (x::r))
theorem oneC (o:Ob):allOne (flat [.agg (obC o)])=true:=by rw[show flat [.agg (obC o)]=obC o from List.append_nil _];exact one_obC o
section
variable {l ps:List Rw}
theorem ls_step (hps:ps.length≤9223372036854775807) {i:Nat} {y:Rw} (hy:l[i]? =some y) (hi:i<12) (os:List Ob) (hos:os.length=i):∃o,OxL o∧o.id=chS i∧∀Q:AExit→St→Prop,ALp Tryz.prog opts0.glob 0 (lpCode Tryz.prog 50 4) (lsW (.ofNat (i+1)) (l.map rwA) (ps.map rwA) (os++[o])).st Q→ALp Tryz.prog opts0.glob 0 (lpCode Tryz.prog 50 4) (lsW (.ofNat i) (l.map rwA) (ps.map rwA) os).st Q:=by
 obtain ⟨k,hk,hpk⟩:=pick_len y.a hps
 obtain ⟨o,hox,hob⟩:=object_sem y (ps.take k)
 have hR:=closed_rws l
 have hP:=closed_rws ps
 have hl:i<(l.map rwA).length:=by
  obtain ⟨h1,_⟩:=List.getElem?_eq_some_iff.1 hy
  simpa using h1
 have yes:ltInt (Int.ofNat i) (Int.ofNat (lenN (l.map rwA)))=true:=ltInt_iff.2 (by rw[lenN_eq];simp only[Int.ofNat_eq_natCast];omega)
 have y12:ltInt (Int.ofNat i) 12=true:=ltInt_iff.2 (by simp only[Int.ofNat_eq_natCast];omega)
 have gx:indexAddrA Tryz.prog 22 (.fsl false (l.map rwA)) (I (.ofNat i))=some (.fptr (rwC y) 0):=fsl_index (v:=rwA y) (e:=42) (sz:=4) (by kernel_rfl) (by kernel_rfl) (by rw[List.getElem?_map,hy];rfl) rfl
 have hw:wrapA .i64 (Int.ofNat i+1)=Int.ofNat (i+1):=wrapA_i64 (by simp;omega) (by simp;omega)
 have hsl:=sl_takeL (t:=22) (e:=42) (sz:=4) (R:=ps.map rwA) (j:=k) (by kernel_rfl) (by kernel_rfl) (head_rwL ps) (by rw[List.length_map];exact hk)
 rw[←List.map_take] at hsl
 have hpl:lenN (ps.map rwA)=ps.length:=by rw[lenN_eq,List.length_map]
 have hcv:=conv_ch i hi
 have fo:=fits_obh o
 refine ⟨{o with id:=chS i},oxl_of hox (by simp[chS,chI]),rfl,fun Q hq=> ?_⟩
 have hc2:=closed_flO (os++[{o with id:=chS i}])
 have h1:=oneC {o with id:=chS i}
 cases os with
 |nil=>
  have hq:ALp Tryz.prog opts0.glob 0 (lpCode Tryz.prog 50 4) (lsV1 (.ofNat (i+1)) (l.map rwA) (ps.map rwA) 1 (flO [{o with id:=chS i}])).st Q:=hq
  refine ALp.round (A:=lsA y (.ofNat k) ((ps.take k).map rwA) (obC o) (chI i)) (V1:=lsV1 (.ofNat (i+1)) (l.map rwA) (ps.map rwA) 1 (flO [{o with id:=chS i}])) (V2:=lsV1 (.ofNat (i+1)) (l.map rwA) (ps.map rwA) 1 (flO [{o with id:=chS i}])) (F:=lsV0 (.ofNat i) (l.map rwA) (ps.map rwA)) (lk:=[(0,39)]) (lk':=[]) base0 aidJ_ok (LsOk.no rfl) .refl ?_
  show wpK Tryz.prog opts0 40 _ _ (lsV0 (.ofNat i) (l.map rwA) (ps.map rwA)).st _
  unfold obA at hob
  unfold obC at hob fo⊢
  rw[ls_0,hw,hpl]
  exact mtB_of (fun _=>mtT y12 ⟨gx,hpk,gx,hsl,hob,oblB_of fo ⟨hcv,oblB_of rfl ⟨⟨⟨⟨rfl,hR⟩,⟨rfl,hP⟩,⟨rfl,rfl⟩,trivial⟩,⟨⟨rfl,rfl,rfl,rfl,rfl⟩,trivial⟩,⟨rfl,hc2⟩,trivial⟩,hq⟩⟩⟩) (fun e=>by rw[yes] at e;cases e)
 |cons x r=>
  simp only[List.length_cons] at hos
  have hq:ALp Tryz.prog opts0.glob 0 (lpCode Tryz.prog 50 4) (lsV1 (.ofNat (i+1)) (l.map rwA) (ps.map rwA) ((r++[{o with id:=chS i}]).length+1) (flO ((x::r)++[{o with id:=chS i}]))).st Q:=hq
  rw[List.length_append,List.length_singleton] at hq
  have h2:Nat.ble ((r.length+1+1)*376) 140737488355328=true:=ble_of (by omega)
  have h3:Nat.beq (lenN (flO (x::r))) ((r.length+1)*37)=true:=by rw[beq_iff,lenN_eq,flO_len];rfl
  have e1:flO (x::r)++obC {o with id:=chS i}=flO ((x::r)++[{o with id:=chS i}]):=fp_cells _ _
  have e2:flat [.agg (obC {o with id:=chS i})]=obC {o with id:=chS i}:=List.append_nil _
  rw[←e2] at e1
  refine ALp.round (A:=lsA y (.ofNat k) ((ps.take k).map rwA) (obC o) (chI i)) (V1:=lsV1 (.ofNat (i+1)) (l.map rwA) (ps.map rwA) (r.length+1+1) (flO ((x::r)++[{o with id:=chS i}]))) (V2:=lsV1 (.ofNat (i+1)) (l.map rwA) (ps.map rwA) (r.length+1+1) (flO ((x::r)++[{o with id:=chS i}]))) (F:=lsV1 (.ofNat i) (l.map rwA) (ps.map rwA) (r.length+1) (flO (x::r))) (lk:=[(0,40)]) (lk':=[(0,0)]) base0 aidJ_ok (LsOk.no rfl) .refl ?_
  show wpK Tryz.prog opts0 40 _ _ (lsV1 (.ofNat i) (l.map rwA) (ps.map rwA) (r.length+1) (flO (x::r))).st _
  unfold obA at hob
  unfold obC at hob fo h1 e1⊢
  rw[ls_1,hw,hpl]
  exact mtB_of (fun _=>mtT y12 ⟨gx,hpk,gx,hsl,hob,oblB_of fo ⟨hcv,oblB_of rfl (oblB_of (and3 rfl h2 h1) (oblB_of h3 ⟨⟨⟨⟨rfl,hR⟩,⟨rfl,hP⟩,⟨rfl,rfl⟩,trivial⟩,⟨⟨rfl,rfl,rfl,rfl,rfl⟩,trivial⟩,⟨e1,hc2⟩,trivial⟩,hq⟩))⟩⟩) (fun e=>by rw[yes] at e;cases e)
theorem ls_stop {i:Nat} (hi:i=min l.length 12) (os:List Ob) {Q:AExit→St→Prop} (hq:Q (.exit 0) (lsW (.ofNat i) (l.map rwA) (ps.map rwA) os).st):ALp Tryz.prog opts0.glob 0 (lpCode Tryz.prog 50 4) (lsW (.ofNat i) (l.map rwA) (ps.map rwA) os).st Q:=by
 have hR:=closed_rws l
 have hP:=closed_rws ps
 have hlen:lenN (l.map rwA)=l.length:=by rw[lenN_eq,List.length_map]
 have no:ltInt (Int.ofNat i) (Int.ofNat l.length)=true→ltInt (Int.ofNat i) 12=true→False:=fun e e2=>by
  have e:=ltInt_iff.1 e
  have e2:=ltInt_iff.1 e2
  simp only[Int.ofNat_eq_natCast] at e e2
  omega
 cases os with
 |nil=>
  refine ALp.round (A:=lsA ⟨0,0,0,0⟩ 0 [] (obF zO .nilsl .nilsl .nilsl .nilsl) []) (V1:=lsV1 0 (l.map rwA) (ps.map rwA) 1 []) (V2:=lsV1 0 (l.map rwA) (ps.map rwA) 1 []) (F:=lsV0 (.ofNat i) (l.map rwA) (ps.map rwA)) (lk:=[(0,39)]) (lk':=[]) base0 aidJ_ok (LsOk.no rfl) .refl ?_
  show wpK Tryz.prog opts0 40 _ _ (lsV0 (.ofNat i) (l.map rwA) (ps.map rwA)).st _
  rw[ls_0,hlen]
  exact mtB_of (fun e=>mtB_of (fun e2=>(no e e2).elim) fun _=>⟨⟨⟨⟨rfl,hR⟩,⟨rfl,hP⟩,⟨rfl,rfl⟩,⟨rfl,rfl⟩,trivial⟩,trivial,trivial⟩,hq⟩) fun _=>⟨⟨⟨⟨rfl,hR⟩,⟨rfl,hP⟩,⟨rfl,rfl⟩,⟨rfl,rfl⟩,trivial⟩,trivial,trivial⟩,hq⟩
 |cons x r=>
  have hc:=closed_flO (x::r)
  refine ALp.round (A:=lsA ⟨0,0,0,0⟩ 0 [] (obF zO .nilsl .nilsl .nilsl .nilsl) []) (V1:=lsV1 0 (l.map rwA) (ps.map rwA) (r.length+1+1) []) (V2:=lsV1 0 (l.map rwA) (ps.map rwA) (r.length+1+1) []) (F:=lsV1 (.ofNat i) (l.map rwA) (ps.map rwA) (r.length+1) (flO (x::r))) (lk:=[(0,40)]) (lk':=[(0,0)]) base0 aidJ_ok (LsOk.no rfl) .refl ?_
  show wpK Tryz.prog opts0 40 _ _ (lsV1 (.ofNat i) (l.map rwA) (ps.map rwA) (r.length+1) (flO (x::r))).st _
  rw[ls_1,hlen]
  exact mtB_of (fun e=>mtB_of (fun e2=>(no e e2).elim) fun _=>⟨⟨⟨⟨rfl,hR⟩,⟨rfl,hP⟩,⟨rfl,rfl⟩,trivial⟩,⟨⟨rfl,rfl,rfl,rfl,rfl⟩,trivial⟩,⟨rfl,hc⟩,trivial⟩,hq⟩) fun _=>⟨⟨⟨⟨rfl,hR⟩,⟨rfl,hP⟩,⟨rfl,rfl⟩,trivial⟩,⟨⟨rfl,rfl,rfl,rfl,rfl⟩,trivial⟩,⟨rfl,hc⟩,trivial⟩,hq⟩
def LsI (os:List Ob):Prop:=∀i o,os[i]? =some o→OxL o∧o.id=chS i
theorem ls_run (hps:ps.length≤9223372036854775807):∀ (m i:Nat) (os:List Ob),i+m=min l.length 12→os.length=i→LsI os→∃os',os'.length=min l.length 12∧LsI os'∧∀Q:AExit→St→Prop,Q (.exit 0) (lsW (.ofNat (min l.length 12)) (l.map rwA) (ps.map rwA) os').st→ALp Tryz.prog opts0.glob 0 (lpCode Tryz.prog 50 4) (lsW (.ofNat i) (l.map rwA) (ps.map rwA) os).st Q
 | 0,i,os,hi,ho,hI=>⟨os,by omega,hI,fun Q hq=>by
   have e:i=min l.length 12:=by omega
   rw[←e] at hq
   exact ls_stop e os hq⟩
 | m +1,i,os,hi,ho,hI=>by
  obtain ⟨o,h1,h2,h3⟩:=ls_step (l:=l) hps (List.getElem?_eq_getElem (show i<l.length by omega)) (by omega) os ho
  obtain ⟨os',k1,k2,k3⟩:=ls_run hps m (i+1) (os++[o]) (by omega) (by simp[ho]) (fun j x hx=>by
   by_cases hj:j<os.length
   ·rw[List.getElem?_append_left hj] at hx
    exact hI j x hx
   ·rw[List.getElem?_append_right (by omega)] at hx
    have hj2:j-os.length=0:=by
     have:=(List.getElem?_eq_some_iff.1 hx).1
     simp at this
     omega
    rw[hj2] at hx
    cases hx
    have:j=i:=by omega
    subst this
    exact ⟨h1,h2⟩)
  exact ⟨os',k1,k2,fun Q hq=>h3 Q (k3 Q hq)⟩
end
theorem ls_at:loopsAt (fnCode Tryz.prog 50) 4=[lpCode Tryz.prog 50 4]:=by kernel_rfl
theorem list_ex {l ps:List Rw} (hps:ps.length≤9223372036854775807):∃os:List Ob,os.length=min l.length 12∧LsI os∧SC 50 [.fsl false (l.map rwA),.fsl false (ps.map rwA)] (.fsl false (os.map obA)):=by
 obtain ⟨os,h1,h2,h3⟩:=ls_run (l:=l) hps (min l.length 12) 0 [] (Nat.zero_add _) rfl (fun i o h=>by simp at h)
 refine ⟨os,h1,h2, ?_⟩
 have hR:=closed_rws l
 have hP:=closed_rws ps
 have hcl:closedAll [.fsl false (l.map rwA),.fsl false (ps.map rwA)]=true:=by simp only[closedAll,closedA,hR,hP,Bool.and_self]
 have hcc:=closed_obs os
 cases os with
 | nil=>
  refine fnK_semX (A:=aidJ [] [(4,lsL (lsV0 0 (l.map rwA) (ps.map rwA)) (lsV0 (.ofNat (min l.length 12)) (l.map rwA) (ps.map rwA)))] noSem [] []) base0 aidJ_ok
   (fnLs_of (LsOk.at1 rfl ls_at fun st Q hs=> .seen base0.glob hs.1 (h3 Q hs.2))) hcl ?_
  rw[ls_fn0]
  exact ⟨⟨⟨⟨rfl,hR⟩,⟨rfl,hP⟩,⟨rfl,rfl⟩,⟨rfl,rfl⟩,trivial⟩,trivial,trivial⟩,⟨.nilsl,(Frz.closed _ rfl).out,rfl,.nil⟩⟩
 | cons x r=>
  refine fnK_semX (A:=aidJ [] [(4,lsL (lsV0 0 (l.map rwA) (ps.map rwA)) (lsV1 (.ofNat (min l.length 12)) (l.map rwA) (ps.map rwA) (r.length+1) (flO (x::r))))] noSem [] []) base0 aidJ_ok
   (fnLs_of (LsOk.at1 rfl ls_at fun st Q hs=> .seen base0.glob hs.1 (h3 Q hs.2))) hcl ?_
  rw[ls_fn1]
  exact ⟨⟨⟨⟨rfl,hR⟩,⟨rfl,hP⟩,⟨rfl,rfl⟩,⟨rfl,rfl⟩,trivial⟩,trivial,trivial⟩,⟨.fsl false ((x::r).map obA),(Frz.row (es:=(x::r).map obA) rfl rfl rfl (by rw[List.length_map];rfl) (fun e he=>by obtain ⟨a,_,rfl⟩:=List.mem_map.1 he;exact ⟨rfl,rfl⟩) hcc).out,hcc,.refl _⟩⟩
theorem chS_inj:∀i j,i<12→j<12→chS i=chS j→i=j:=by
 have:∀i:Fin 12,∀j:Fin 12,chS i.val=chS j.val→i.val=j.val:=by decide
 exact fun i j hi hj h=>this ⟨i,hi⟩ ⟨j,hj⟩ h
end Go.Proofs.YtjhggnebkfpgcaaGreatDoor
namespace Go.Proofs.YtjhggnebkfpgcaaGreatDoor
open Go Go.RowKit
open Go.Proofs.Abs
noncomputable def optsB:Opts:={how:=fun f=>match memN [119,120,121,151,191,193,194] f with|true=> .fresh|false=>match memN [102,104,144,145,214,215] f with|true=> .keep|false=> .pure,summ:=fun _ _=>none,glob:=gl,lf:=100000}
theorem known14_sem:SC 51 [] (.bool true):=
 sem_of_calls (O:=optsB) (n:=20) Tryz.mixed (fun _ _ _ h=>by cases h) noCall_ok' gl_closed fun id h nx=>pureT_ok (O:=optsB) (n:=19) (T:=[]) (F:=[]) rfl rfl (by kernel_rfl) trivial id h nx
def popS (L:List At) (l:List Ob):List Ob:=popsL ltO (hpS L l).length (hpS L l)
def takM {α:Type} (most:Int) (n:Nat) (l:List α):List α:=match ltInt most 0 with
 |true=>l
 |false=>l.take (most.toNat-n)
theorem run_out (most:Int):∀ (f:Nat) (s:FS),s.live.length=f→Hp ltO s.live s.live.length→(runS most f s).out=s.out++takM most s.out.length ((popsL ltO f s.live).map (·.id))
 |0,s,_,_=>by
  simp only[runS,popsL,takM,List.map_nil,List.take_nil]
  cases ltInt most 0<;>simp
 | f+1,s,hf,hp=>by
  have h0:s.live≠[]:=fun h=>by rw[h] at hf;cases hf
  have hlen:0<s.live.length:=by omega
  rw[runS]
  obtain ⟨x,r,h1,h2,h3,_,h5,_,h7⟩:=pop_ex ordO hp hlen
  have hpop:popsL ltO (f+1) s.live=x::popsL ltO f r:=by
   rw[popsL];simp only[h1,h2]
  have hst:stepS s=⟨r,x::s.junk,s.out++[x.id]⟩:=by unfold stepS;simp only[h1,h2]
  rw[hpop]
  cases hg:goS most s with
  |false=>
   simp only[goS,Bool.or_eq_false_iff] at hg
   have h8:=ltInt_false.1 hg.2
   simp only[takM,hg.1]
   rw[show most.toNat-s.out.length=0 by simp only[Int.ofNat_eq_natCast] at h8;omega]
   simp
  | true=>
   have ih:=run_out most f (stepS s) (by rw[hst];simp only;omega) (by rw[hst];exact h5)
   rw[ih,hst]
   simp only[takM,List.length_append,List.length_singleton,List.map_cons]
   cases hm:ltInt most 0 with
   |true=>simp
   |false=>
    simp only[goS,hm,Bool.false_or] at hg
    have h8:=ltInt_iff.1 hg
    simp only[Int.ofNat_eq_natCast] at h8
    rw[show most.toNat-s.out.length=(most.toNat-(s.out.length+1))+1 by omega,List.take_succ_cons]
    simp
theorem find_eq (most:Int) (L:List At) (l:List Ob):findS most L l=takM most 0 ((popS L l).map (·.id)):=by
 unfold findS
 rw[run_out most _ ⟨hpS L l,[],[]⟩ rfl (hpS_ok L l).1]
 rfl
theorem pop_perm (L:List At) (l:List Ob):(popS L l).Perm (l.filter fun o=>isB o L):=(pops_ok ordO _ _ rfl (hpS_ok L l).1).1.trans (hpS_ok L l).2
theorem pop_sorted (L:List At) (l:List Ob):(popS L l).Pairwise fun a b=>ltO b a=false:=(pops_ok ordO _ _ rfl (hpS_ok L l).1).2
theorem idxId {l:List (List UInt8)} {i:Nat} {s:List UInt8} (h:l[i]? =some s):indexAddrA Tryz.prog 27 (.fsl false (l.map .str)) (I (.ofNat i))=some (.fptr [.str s] 0):=
 fsl_index (v:= .str s) (e:=9) (sz:=1) (by kernel_rfl) (by kernel_rfl) (by rw[List.getElem?_map,h];rfl) rfl
theorem wrp {p:Nat} (h:p≤1000000):wrapA .i64 (Int.ofNat p+1)=Int.ofNat (p+1):=wrapA_i64 (by simp;omega) (by simp;omega)
theorem ltn_y {i n:Nat} (h:i<n):ltInt (Int.ofNat i) (Int.ofNat n)=true:=ltInt_iff.2 (by simp only[Int.ofNat_eq_natCast];omega)
theorem ltn_n {i n:Nat} (h:n≤i):ltInt (Int.ofNat i) (Int.ofNat n)=false:=ltInt_false.2 (by simp only[Int.ofNat_eq_natCast];omega)
def cntB (L:List At) (l:List Ob):Nat:=(l.filter fun o=>isB o L).length
theorem cntB_le (L:List At) (l:List Ob):cntB L l≤l.length:=List.length_filter_le _ _
section
variable {os:List Ob} {C:List At} {most:Int} {X:List AV} {Q:AExit→St→Prop}
end
section
variable {os:List Ob} {C:List At} {ids:List (List UInt8)} {i:Nat} {y:Ob} {Q:AExit→St→Prop}
end
section
variable {os S:List Ob} {C:List At} {ids:List (List UInt8)} {Q:AExit→St→Prop}
end
noncomputable section
abbrev wc9 (a d g m p r re ro:AV) (h:RowH):=[AV.str h.1,I h.2,AV.bool h.3,AV.bool h.4,a,m,re,g,r,p,d,ro]
theorem knw_fn (h:RowH) (a m re g r p d ro:AV) (f:Bool) (s:List UInt8) (Q:AV→Prop):fnK Tryz.prog opts0 40 (ofQ (.agg (rowW h a m re g r p d ro)) f []) 46 [.str s] [] 0 (fun v _ _=>Q v)=
  (SC 61 [AV.str s] (AV.tuple [AV.agg (wc9 a d g m p r re ro h),AV.bool f])∧oblB (fitsT Tryz.prog 89 (AV.agg (wc9 a d g m p r re ro h)) 12) (Q (AV.bool f))):=by kernel_rfl
theorem typ_fn (h:RowH) (a m re g r p d ro:AV) (f:Bool) (s:List UInt8) (Q:AV→Prop):fnK Tryz.prog opts0 40 (ofQ (.agg (rowW h a m re g r p d ro)) f []) 146 [.str s] [] 0 (fun v _ _=>Q v)=
  (SC 61 [AV.str s] (AV.tuple [AV.agg (wc9 a d g m p r re ro h),AV.bool f])∧oblB (fitsT Tryz.prog 89 (AV.agg (wc9 a d g m p r re ro h)) 12) (mtB f (Q (I h.2)) (Q (I 0)))):=by kernel_rfl
def rtA (ty:Int) (dt:Bool) (Vs:List AV):Aid:=aidJ [] [] (manyS [(146,I ty),(97,.bool dt),(99,.fsl false Vs)]) [] []
theorem rt_fn (s:List UInt8) (idx t y q ty:Int) (dt:Bool) (D K Ls Vs:List AV) (Q:AV→Prop):fnK Tryz.prog opts0 40 (rtA ty dt Vs) 106 [.agg (.str s::I idx::itF t y q D K),.fsl false Ls] [] 0 (fun v _ _=>Q v)=
  (SC 146 [AV.str s] (I ty)∧mtB (beqInt ty y) (mtB (beqInt idx 0) (SC 97 [AV.agg [AV.str s,I idx,I t,I y,I q,AV.fsl false D,AV.fsl false K]] (AV.bool dt)∧mtB dt (SC 99 [AV.fsl false Ls,AV.str s] (AV.fsl false Vs)∧Q (AV.bool !ltInt 2 (Int.ofNat (lenN Vs)))) (Q (AV.bool true))) (Q (AV.bool false))) (Q (AV.bool false))):=by kernel_rfl
def riT (b:Bool) (Ls:List AV):SemT:=fun f _ _ _=>match Nat.beq f 100 with
 |true=>some (.part [0] (.bool b) [(0,some (.cells [.fsl false Ls]))] 30)
 |false=>none
theorem ri_fn (b:Bool) (Ls:List AV) (Q:AV→Prop):fnK Tryz.prog opts0 40 (aidJ [] [] (riT b Ls) [] []) 55 [.fsl false Ls] [] 0 (fun v _ _=>Q v)=
  (mtB (ltInt 20 (Int.ofNat (lenN Ls))) (Q (I 7)) (BodySem Tryz.prog opts0.glob 100 [AV.fsl false Ls,AV.func (Fn.func 105) [] [AV.ptr 0 0]] [(0,some (Blk.cells [AV.fsl false Ls]))] 10 (AV.bool b) [(0,some (Blk.cells [AV.fsl false Ls]))] 40∧mtB b (Q (I 7)) (Q (I 0)))):=by kernel_rfl
def wnV0 (i how:Int) (Ls:List AV):View:=⟨[(0,.fsl false Ls),(1,I how),(5,.nilsl),(6,I i)],[],[],0,46⟩
def wnV1 (i how:Int) (Ls:List AV) (k:Nat) (es:List AV):View:=⟨[(0,.fsl false Ls),(1,I how),(6,I i)],[(5,.rsl true 0 0 k 7)],[(0,.cells es,.whole)],1,46⟩
def wnA (y:Rw) (a:List AV) (h:Bool):Aid:=aidJ [(5,2,.res (.fptr (rwC y) 0)),(6,2,.res (.bool h))] [] (manyS [(16,.agg a)]) [] []
@[simp] abbrev wc4 (Ls:List AV):=(AV.fsl false Ls=AV.fsl false Ls∧closedA (AV.fsl false Ls)=true)
@[simp] abbrev wc6 (how:Int):=(I how=I how∧closedA (I how)=true)
@[simp] abbrev wc2 (Ls:List AV) (Q:AExit→St→Prop) (how i:Int):=((((wc4 Ls)∧(wc6 how)∧(AV.nilsl=AV.nilsl∧true=true)∧(I i=I i∧closedA (I i)=true)∧True)∧True∧True)∧Q (AExit.exit 0) (wnV0 i how Ls).st)
abbrev wc3 (D K:List AV) (ix n t yy:Int) (s:List UInt8):=[AV.str s,I ix,I t,I yy,I n,AV.fsl false D,AV.fsl false K]
abbrev wc5 (D K:List AV) (n t yy:Int) (s:List UInt8):=[AV.agg [AV.str s,I 0,I t,I yy,I n,AV.fsl false D,AV.fsl false K]]
abbrev wc7 (y:Rw):=[I y.1,I y.2,I y.3,I y.4]
theorem wn_0t (y:Rw) (i j how:Int) (s:List UInt8) (ix t yy n:Int) (D K Ls es':List AV) (Nx:Prop) (Q:AExit→St→Prop):wpK Tryz.prog opts0 40 (wnA y (.str s::I ix::itF t yy n D K) true) (lpCode Tryz.prog 56 4) (wnV0 i how Ls).st (roundP 0 [(0,23)] (wnV1 j how Ls 1 es') Nx [] (wnV0 i how Ls) Q)=
  (mtB (ltInt i (Int.ofNat (lenN Ls))) (mtB (ltInt i 4) (indexAddrA Tryz.prog 22 (AV.fsl false Ls) (I i)=some (AV.fptr (wc7 y) 0)∧SC 16 [AV.agg (wc7 y)] (AV.agg (wc3 D K ix n t yy s))∧binA Tryz.prog BinOp.gtr 3 (Operand.tmp 24) (Operand.const (Value.int IntKind.i64 0)) (I (how.tmod 5)) (I 0)=some (AV.bool true)∧(((wc4 Ls)∧(wc6 how)∧(I (wrapA IntKind.i64 (i+1))=I j∧closedA (I j)=true)∧True)∧((true=true∧some 23=some 23∧0=0∧1=lenN (wc5 D K n t yy s)∧7=7)∧True)∧(flat (wc5 D K n t yy s)=es'∧closedAll es'=true)∧True)∧Nx) (wc2 Ls Q how i)) (wc2 Ls Q how i)):=by kernel_rfl
theorem wn_0f (y:Rw) (i j how:Int) (s:List UInt8) (ix t yy n:Int) (D K Ls es':List AV) (Nx:Prop) (Q:AExit→St→Prop):wpK Tryz.prog opts0 40 (wnA y (.str s::I ix::itF t yy n D K) false) (lpCode Tryz.prog 56 4) (wnV0 i how Ls).st (roundP 0 [(0,21)] (wnV1 j how Ls 1 es') Nx [] (wnV0 i how Ls) Q)=
  (mtB (ltInt i (Int.ofNat (lenN Ls))) (mtB (ltInt i 4) (indexAddrA Tryz.prog 22 (AV.fsl false Ls) (I i)=some (AV.fptr (wc7 y) 0)∧SC 16 [AV.agg (wc7 y)] (AV.agg (wc3 D K ix n t yy s))∧binA Tryz.prog BinOp.gtr 3 (Operand.tmp 24) (Operand.const (Value.int IntKind.i64 0)) (I (how.tmod 5)) (I 0)=some (AV.bool false)∧(((wc4 Ls)∧(wc6 how)∧(I (wrapA IntKind.i64 (i+1))=I j∧closedA (I j)=true)∧True)∧((true=true∧some 21=some 21∧0=0∧1=lenN [AV.agg (wc3 D K ix n t yy s)]∧7=7)∧True)∧(flat [AV.agg (wc3 D K ix n t yy s)]=es'∧closedAll es'=true)∧True)∧Nx) (wc2 Ls Q how i)) (wc2 Ls Q how i)):=by kernel_rfl
@[simp] abbrev wc1 (Ls es:List AV) (Q:AExit→St→Prop) (how i:Int) (k:Nat):=((((wc4 Ls)∧(wc6 how)∧(I i=I i∧closedA (I i)=true)∧True)∧((true=true∧some 0=some 0∧0=0∧k=k∧7=7)∧True)∧(es=es∧closedAll es=true)∧True)∧Q (AExit.exit 0) (wnV1 i how Ls k es).st)
theorem wn_1t (y:Rw) (i j how:Int) (s:List UInt8) (ix t yy n:Int) (k:Nat) (D K Ls es es':List AV) (Nx:Prop) (Q:AExit→St→Prop):wpK Tryz.prog opts0 40 (wnA y (.str s::I ix::itF t yy n D K) true) (lpCode Tryz.prog 56 4) (wnV1 i how Ls k es).st (roundP 0 [(0,24)] (wnV1 j how Ls (k+1) es') Nx [(0,0)] (wnV1 i how Ls k es) Q)=
  (mtB (ltInt i (Int.ofNat (lenN Ls))) (mtB (ltInt i 4) (indexAddrA Tryz.prog 22 (AV.fsl false Ls) (I i)=some (AV.fptr (wc7 y) 0)∧SC 16 [AV.agg (wc7 y)] (AV.agg (wc3 D K ix n t yy s))∧binA Tryz.prog BinOp.gtr 3 (Operand.tmp 24) (Operand.const (Value.int IntKind.i64 0)) (I (how.tmod 5)) (I 0)=some (AV.bool true)∧oblB (allSize 7 (wc5 D K n t yy s)&&(((k+lenN (wc5 D K n t yy s))*96).ble 140737488355328&&(allOne (flat (wc5 D K n t yy s))&&true))) (oblB ((lenN es).beq (k*7)) ((((wc4 Ls)∧(wc6 how)∧(I (wrapA IntKind.i64 (i+1))=I j∧closedA (I j)=true)∧True)∧((true=true∧some 24=some 24∧0=0∧k+1=k+lenN (wc5 D K n t yy s)∧7=7)∧True)∧(es++flat (wc5 D K n t yy s)=es'∧closedAll es'=true)∧True)∧Nx))) (wc1 Ls es Q how i k)) (wc1 Ls es Q how i k)):=by kernel_rfl
abbrev wc10 (D K:List AV) (ix n t yy:Int) (k:Nat) (s:List UInt8):=(allSize 7 [AV.agg (wc3 D K ix n t yy s)]&&(((k+lenN [AV.agg (wc3 D K ix n t yy s)])*96).ble 140737488355328&&(allOne (flat [AV.agg (wc3 D K ix n t yy s)])&&true)))
theorem wn_1f (y:Rw) (i j how:Int) (s:List UInt8) (ix t yy n:Int) (k:Nat) (D K Ls es es':List AV) (Nx:Prop) (Q:AExit→St→Prop):wpK Tryz.prog opts0 40 (wnA y (.str s::I ix::itF t yy n D K) false) (lpCode Tryz.prog 56 4) (wnV1 i how Ls k es).st (roundP 0 [(0,22)] (wnV1 j how Ls (k+1) es') Nx [(0,0)] (wnV1 i how Ls k es) Q)=
  (mtB (ltInt i (Int.ofNat (lenN Ls))) (mtB (ltInt i 4) (indexAddrA Tryz.prog 22 (AV.fsl false Ls) (I i)=some (AV.fptr (wc7 y) 0)∧SC 16 [AV.agg (wc7 y)] (AV.agg (wc3 D K ix n t yy s))∧binA Tryz.prog BinOp.gtr 3 (Operand.tmp 24) (Operand.const (Value.int IntKind.i64 0)) (I (how.tmod 5)) (I 0)=some (AV.bool false)∧oblB (wc10 D K ix n t yy k s) (oblB ((lenN es).beq (k*7)) ((((wc4 Ls)∧(wc6 how)∧(I (wrapA IntKind.i64 (i+1))=I j∧closedA (I j)=true)∧True)∧((true=true∧some 22=some 22∧0=0∧k+1=k+lenN [AV.agg (wc3 D K ix n t yy s)]∧7=7)∧True)∧(es++flat [AV.agg (wc3 D K ix n t yy s)]=es'∧closedAll es'=true)∧True)∧Nx))) (wc1 Ls es Q how i k)) (wc1 Ls es Q how i k)):=by kernel_rfl
def wnL (V W:View):LoopS:=fun st Q=>seesK 0 [] V st∧Q (.exit 0) W.st
@[simp] abbrev wc8 (Ls:List AV) (how:Int):=(((wc4 Ls)∧(wc6 how)∧(AV.nilsl=AV.nilsl∧true=true)∧(I 0=I 0∧true=true)∧True)∧True∧True)
theorem wn_fn0 (i how:Int) (Ls:List AV) (Q:AV→Heap→Prop):fnK Tryz.prog opts0 40 (aidJ [] [(4,wnL (wnV0 0 how Ls) (wnV0 i how Ls))] noSem [] []) 56 [.fsl false Ls,I how] [] 0 (fun v H _=>Q v H)=
  ((wc8 Ls how)∧mtB (beqInt (how.tmod 3) 0) (Q AV.nilsl []) (Q AV.nilsl [])):=by kernel_rfl
theorem wn_fn1 (i how:Int) (Ls:List AV) (k:Nat) (s:List UInt8) (ix t yy n:Int) (D K es:List AV) (Q:AV→Heap→Prop):fnK Tryz.prog opts0 40 (aidJ [(10,3,.ld (.agg (.str s::I ix::itF t yy n D K)))] [(4,wnL (wnV0 0 how Ls) (wnV1 i how Ls k es))] noSem [] []) 56 [.fsl false Ls,I how] [] 0 (fun v H _=>Q v H)=
  ((wc8 Ls how)∧mtB (beqInt (how.tmod 3) 0) (mtB (ltInt 0 (Int.ofNat k)) (oblB (Nat.blt 0 k&&true) (partA Tryz.prog 39 es 0=some (AV.agg (wc3 D K ix n t yy s))∧oblB (wc10 D K ix n t yy k s) (oblB ((lenN es).beq (k*7)) (Q (AV.rsl true 14 0 (k+lenN [AV.agg (wc3 D K ix n t yy s)]) 7) [(14,some (Blk.cells (es++flat [AV.agg (wc3 D K ix n t yy s)]))),(0,none)])))) (Q (AV.rsl true 0 0 k 7) [(0,some (Blk.cells es))])) (Q (AV.rsl true 0 0 k 7) [(0,some (Blk.cells es))])):=by kernel_rfl
end
end Go.Proofs.YtjhggnebkfpgcaaGreatDoor
namespace Go.Proofs.YtjhggnebkfpgcaaGreatDoor
set_option maxRecDepth 20000
open Go Go.RowKit
open Go.Proofs.Abs
theorem gtr_eq (x y:Operand) (a b:Int):binA Tryz.prog .gtr 3 x y (I a) (I b)=some (.bool (ltInt b a)):=by kernel_rfl
def wAt (how:Int) (y:Rw):At:=match ltInt 0 (how.tmod 5) with
 |true=>⟨(attrI y).name,0,(attrI y).v⟩
 |false=>attrI y
def wBase (how:Int) (l:List Rw):List At:=(l.take 4).map (wAt how)
def wantS (how:Int) (l:List Rw):List At:=match beqInt (how.tmod 3) 0,wBase how l with
 |true,a::r=>a::r++[a]
 |_,b=>b
def flT (l:List At):List AV:=flat (l.map atA)
theorem closed_flT:∀l:List At,closedAll (flT l)=true
 |[]=>rfl
 |a::r=>by
  have h1:=closed_atA a
  have h2:=closed_flT r
  show closedAll (atC a++flT r)=true
  rw[closedAll_append,h2,show closedAll (atC a)=true from h1]
  rfl
theorem flT_cons (a:At) (l:List At):flT (a::l)=atC a++flT l:=rfl
theorem flT_app (a b:List At):flT (a++b)=flT a++flT b:=by rw[flT,List.map_append,flat_append];rfl
theorem atC_len (a:At):(atC a).length=7:=by
 obtain ⟨s,i,⟨t,y,n,d,ks⟩⟩:=a
 rfl
theorem flT_len:∀l:List At,(flT l).length=l.length*7
 |[]=>rfl
 |a::r=>by rw[flT_cons,List.length_append,flT_len r,atC_len,List.length_cons];omega
theorem one_at (a:At):allOne (flat [atA a])=true:=allOne_at [a]
theorem ask_at (a:At) {k:Nat} (hk:k≤100000):(allSize 7 [atA a]&&(Nat.ble ((k+lenN [atA a])*96) 140737488355328&&(allOne (flat [atA a])&&true)))=true:=by
 have h1:=allSize_at [a]
 have h2:=one_at a
 have h3:Nat.ble ((k+lenN [atA a])*96) 140737488355328=true:=ble_of (by rw[lenN_eq];simp only[List.length_singleton];omega)
 rw[show allSize 7 [atA a]=true from h1,h2,h3]
 rfl
theorem len_flT (l:List At):Nat.beq (lenN (flT l)) (l.length*7)=true:=by rw[beq_iff,lenN_eq,flT_len]
noncomputable def wnW (i how:Int) (Ls:List AV):List At→View
 |[]=>wnV0 i how Ls
 |a::r=>wnV1 i how Ls (r.length+1) (flT (a::r))
section
variable {l:List Rw} {how:Int} {Q:AExit→St→Prop}
theorem wn_stop {i:Nat} (hi:i=min l.length 4) (L:List At) (hq:Q (.exit 0) (wnW (.ofNat i) how (l.map rwA) L).st):ALp Tryz.prog opts0.glob 0 (lpCode Tryz.prog 56 4) (wnW (.ofNat i) how (l.map rwA) L).st Q:=by
 have hR:=closed_rws l
 have hlen:lenN (l.map rwA)=l.length:=by rw[lenN_eq,List.length_map]
 have no:ltInt (Int.ofNat i) (Int.ofNat l.length)=true→ltInt (Int.ofNat i) 4=true→False:=fun e e2=>by
  have e:=ltInt_iff.1 e
  have e2:=ltInt_iff.1 e2
  simp only[Int.ofNat_eq_natCast] at e e2
  omega
 cases L with
 |nil=>
  refine ALp.round (A:=wnA ⟨0,0,0,0⟩ (.str []::I 0::itF 0 0 0 [] []) false) (V1:=wnV1 0 how (l.map rwA) 1 []) (V2:=wnV1 0 how (l.map rwA) 1 []) (F:=wnV0 (.ofNat i) how (l.map rwA)) (lk:=[(0,21)]) (lk':=[]) base0 aidJ_ok (LsOk.no rfl) .refl ?_
  show wpK Tryz.prog opts0 40 _ _ (wnV0 (.ofNat i) how (l.map rwA)).st _
  rw[wn_0f,hlen]
  exact mtB_of (fun e=>mtB_of (fun e2=>(no e e2).elim) fun _=>⟨⟨⟨⟨rfl,hR⟩,⟨rfl,rfl⟩,⟨rfl,rfl⟩,⟨rfl,rfl⟩,trivial⟩,trivial,trivial⟩,hq⟩) fun _=>⟨⟨⟨⟨rfl,hR⟩,⟨rfl,rfl⟩,⟨rfl,rfl⟩,⟨rfl,rfl⟩,trivial⟩,trivial,trivial⟩,hq⟩
 |cons x r=>
  have hc:=closed_flT (x::r)
  refine ALp.round (A:=wnA ⟨0,0,0,0⟩ (.str []::I 0::itF 0 0 0 [] []) false) (V1:=wnV1 0 how (l.map rwA) (r.length+1+1) []) (V2:=wnV1 0 how (l.map rwA) (r.length+1+1) []) (F:=wnV1 (.ofNat i) how (l.map rwA) (r.length+1) (flT (x::r))) (lk:=[(0,22)]) (lk':=[(0,0)]) base0 aidJ_ok (LsOk.no rfl) .refl ?_
  show wpK Tryz.prog opts0 40 _ _ (wnV1 (.ofNat i) how (l.map rwA) (r.length+1) (flT (x::r))).st _
  rw[wn_1f,hlen]
  exact mtB_of (fun e=>mtB_of (fun e2=>(no e e2).elim) fun _=>⟨⟨⟨⟨rfl,hR⟩,⟨rfl,rfl⟩,⟨rfl,rfl⟩,trivial⟩,⟨⟨rfl,rfl,rfl,rfl,rfl⟩,trivial⟩,⟨rfl,hc⟩,trivial⟩,hq⟩) fun _=>⟨⟨⟨⟨rfl,hR⟩,⟨rfl,rfl⟩,⟨rfl,rfl⟩,trivial⟩,⟨⟨rfl,rfl,rfl,rfl,rfl⟩,trivial⟩,⟨rfl,hc⟩,trivial⟩,hq⟩
theorem wn_step {i:Nat} {y:Rw} (hy:l[i]? =some y) (hi:i<4) (L:List At) (hL:L.length=i) (hn:ALp Tryz.prog opts0.glob 0 (lpCode Tryz.prog 56 4) (wnW (.ofNat (i+1)) how (l.map rwA) (L++[wAt how y])).st Q):ALp Tryz.prog opts0.glob 0 (lpCode Tryz.prog 56 4) (wnW (.ofNat i) how (l.map rwA) L).st Q:=by
 have hR:=closed_rws l
 have hlen:lenN (l.map rwA)=l.length:=by rw[lenN_eq,List.length_map]
 have hlt:i<l.length:=(List.getElem?_eq_some_iff.1 hy).1
 have yes:ltInt (Int.ofNat i) (Int.ofNat l.length)=true:=ltInt_iff.2 (by simp only[Int.ofNat_eq_natCast];omega)
 have y4:ltInt (Int.ofNat i) 4=true:=ltInt_iff.2 (by simp only[Int.ofNat_eq_natCast];omega)
 have gx:indexAddrA Tryz.prog 22 (.fsl false (l.map rwA)) (I (.ofNat i))=some (.fptr (rwC y) 0):=fsl_index (v:=rwA y) (e:=42) (sz:=4) (by kernel_rfl) (by kernel_rfl) (by rw[List.getElem?_map,hy];rfl) rfl
 have hw:wrapA .i64 (Int.ofNat i+1)=Int.ofNat (i+1):=wrapA_i64 (by simp;omega) (by simp;omega)
 have hat:=attr_sem y
 have hd:wAt how y=match ltInt 0 (how.tmod 5) with|true=>⟨(attrI y).name,0,(attrI y).v⟩|false=>attrI y:=rfl
 revert hat hd hn
 generalize wAt how y=a
 generalize attrI y=b
 intro hn hat hd
 obtain ⟨s,ix,⟨t,yy,n,d,ks⟩⟩:=b
 rw[atA_F] at hat
 cases hh:ltInt 0 (how.tmod 5) with
 | true=>
  rw[hh] at hd
  dsimp only at hd
  have hg:∀x y:Operand,binA Tryz.prog .gtr 3 x y (I (how.tmod 5)) (I 0)=some (.bool true):=fun x y=>by rw[gtr_eq,hh]
  subst hd
  cases L with
  |nil=>
   have hn:ALp Tryz.prog opts0.glob 0 (lpCode Tryz.prog 56 4) (wnV1 (.ofNat (i+1)) how (l.map rwA) 1 (flT [⟨s,0,.mk t yy n d ks⟩])).st Q:=hn
   have hc:=closed_flT [⟨s,0,.mk t yy n d ks⟩]
   refine ALp.round (A:=wnA y (.str s::I ix::itF t yy n (toBytes d) (itAs ks)) true) (V1:=wnV1 (.ofNat (i+1)) how (l.map rwA) 1 (flT [⟨s,0,.mk t yy n d ks⟩])) (V2:=wnV1 (.ofNat (i+1)) how (l.map rwA) 1 (flT [⟨s,0,.mk t yy n d ks⟩])) (F:=wnV0 (.ofNat i) how (l.map rwA)) (lk:=[(0,23)]) (lk':=[]) base0 aidJ_ok (LsOk.no rfl) .refl ?_
   show wpK Tryz.prog opts0 40 _ _ (wnV0 (.ofNat i) how (l.map rwA)).st _
   rw[wn_0t,hlen,hw]
   exact mtT yes (mtT y4 ⟨gx,hat,hg _ _,⟨⟨⟨rfl,hR⟩,⟨rfl,rfl⟩,⟨rfl,rfl⟩,trivial⟩,⟨⟨rfl,rfl,rfl,rfl,rfl⟩,trivial⟩,⟨rfl,hc⟩,trivial⟩,hn⟩)
  |cons x r=>
   simp only[List.length_cons] at hL
   have hn:ALp Tryz.prog opts0.glob 0 (lpCode Tryz.prog 56 4) (wnV1 (.ofNat (i+1)) how (l.map rwA) ((r++[(⟨s,0,.mk t yy n d ks⟩:At)]).length+1) (flT ((x::r)++[⟨s,0,.mk t yy n d ks⟩]))).st Q:=hn
   rw[List.length_append,List.length_singleton] at hn
   have hc:=closed_flT ((x::r)++[⟨s,0,.mk t yy n d ks⟩])
   have e1:flT (x::r)++flT [⟨s,0,.mk t yy n d ks⟩]=flT ((x::r)++[⟨s,0,.mk t yy n d ks⟩]):=(flT_app _ _).symm
   refine ALp.round (A:=wnA y (.str s::I ix::itF t yy n (toBytes d) (itAs ks)) true) (V1:=wnV1 (.ofNat (i+1)) how (l.map rwA) (r.length+1+1) (flT ((x::r)++[⟨s,0,.mk t yy n d ks⟩]))) (V2:=wnV1 (.ofNat (i+1)) how (l.map rwA) (r.length+1+1) (flT ((x::r)++[⟨s,0,.mk t yy n d ks⟩]))) (F:=wnV1 (.ofNat i) how (l.map rwA) (r.length+1) (flT (x::r))) (lk:=[(0,24)]) (lk':=[(0,0)]) base0 aidJ_ok (LsOk.no rfl) .refl ?_
   show wpK Tryz.prog opts0 40 _ _ (wnV1 (.ofNat i) how (l.map rwA) (r.length+1) (flT (x::r))).st _
   rw[wn_1t,hlen,hw]
   exact mtT yes (mtT y4 ⟨gx,hat,hg _ _,oblB_of (ask_at ⟨s,0,.mk t yy n d ks⟩ (by omega)) (oblB_of (len_flT (x::r)) ⟨⟨⟨⟨rfl,hR⟩,⟨rfl,rfl⟩,⟨rfl,rfl⟩,trivial⟩,⟨⟨rfl,rfl,rfl,rfl,rfl⟩,trivial⟩,⟨e1,hc⟩,trivial⟩,hn⟩)⟩)
 | false=>
  rw[hh] at hd
  dsimp only at hd
  have hg:∀x y:Operand,binA Tryz.prog .gtr 3 x y (I (how.tmod 5)) (I 0)=some (.bool false):=fun x y=>by rw[gtr_eq,hh]
  subst hd
  cases L with
  |nil=>
   have hn:ALp Tryz.prog opts0.glob 0 (lpCode Tryz.prog 56 4) (wnV1 (.ofNat (i+1)) how (l.map rwA) 1 (flT [⟨s,ix,.mk t yy n d ks⟩])).st Q:=hn
   have hc:=closed_flT [⟨s,ix,.mk t yy n d ks⟩]
   refine ALp.round (A:=wnA y (.str s::I ix::itF t yy n (toBytes d) (itAs ks)) false) (V1:=wnV1 (.ofNat (i+1)) how (l.map rwA) 1 (flT [⟨s,ix,.mk t yy n d ks⟩])) (V2:=wnV1 (.ofNat (i+1)) how (l.map rwA) 1 (flT [⟨s,ix,.mk t yy n d ks⟩])) (F:=wnV0 (.ofNat i) how (l.map rwA)) (lk:=[(0,21)]) (lk':=[]) base0 aidJ_ok (LsOk.no rfl) .refl ?_
   show wpK Tryz.prog opts0 40 _ _ (wnV0 (.ofNat i) how (l.map rwA)).st _
   rw[wn_0f,hlen,hw]
   exact mtT yes (mtT y4 ⟨gx,hat,hg _ _,⟨⟨⟨rfl,hR⟩,⟨rfl,rfl⟩,⟨rfl,rfl⟩,trivial⟩,⟨⟨rfl,rfl,rfl,rfl,rfl⟩,trivial⟩,⟨rfl,hc⟩,trivial⟩,hn⟩)
  |cons x r=>
   simp only[List.length_cons] at hL
   have hn:ALp Tryz.prog opts0.glob 0 (lpCode Tryz.prog 56 4) (wnV1 (.ofNat (i+1)) how (l.map rwA) ((r++[(⟨s,ix,.mk t yy n d ks⟩:At)]).length+1) (flT ((x::r)++[⟨s,ix,.mk t yy n d ks⟩]))).st Q:=hn
   rw[List.length_append,List.length_singleton] at hn
   have hc:=closed_flT ((x::r)++[⟨s,ix,.mk t yy n d ks⟩])
   have e1:flT (x::r)++flT [⟨s,ix,.mk t yy n d ks⟩]=flT ((x::r)++[⟨s,ix,.mk t yy n d ks⟩]):=(flT_app _ _).symm
   refine ALp.round (A:=wnA y (.str s::I ix::itF t yy n (toBytes d) (itAs ks)) false) (V1:=wnV1 (.ofNat (i+1)) how (l.map rwA) (r.length+1+1) (flT ((x::r)++[⟨s,ix,.mk t yy n d ks⟩]))) (V2:=wnV1 (.ofNat (i+1)) how (l.map rwA) (r.length+1+1) (flT ((x::r)++[⟨s,ix,.mk t yy n d ks⟩]))) (F:=wnV1 (.ofNat i) how (l.map rwA) (r.length+1) (flT (x::r))) (lk:=[(0,22)]) (lk':=[(0,0)]) base0 aidJ_ok (LsOk.no rfl) .refl ?_
   show wpK Tryz.prog opts0 40 _ _ (wnV1 (.ofNat i) how (l.map rwA) (r.length+1) (flT (x::r))).st _
   rw[wn_1f,hlen,hw]
   exact mtT yes (mtT y4 ⟨gx,hat,hg _ _,oblB_of (ask_at ⟨s,ix,.mk t yy n d ks⟩ (by omega)) (oblB_of (len_flT (x::r)) ⟨⟨⟨⟨rfl,hR⟩,⟨rfl,rfl⟩,⟨rfl,rfl⟩,trivial⟩,⟨⟨rfl,rfl,rfl,rfl,rfl⟩,trivial⟩,⟨e1,hc⟩,trivial⟩,hn⟩)⟩)
theorem wn_run (hq:Q (.exit 0) (wnW (.ofNat (min l.length 4)) how (l.map rwA) (wBase how l)).st):∀m i,i+m=min l.length 4→ALp Tryz.prog opts0.glob 0 (lpCode Tryz.prog 56 4) (wnW (.ofNat i) how (l.map rwA) ((l.take i).map (wAt how))).st Q
 | 0,i,hi=>by
  have e:i=min l.length 4:=by omega
  have e2:(l.take i).map (wAt how)=wBase how l:=by
   unfold wBase
   subst e
   by_cases h:l.length≤4
   ·rw[Nat.min_eq_left h,List.take_of_length_le (Nat.le_refl _),List.take_of_length_le h]
   ·rw[Nat.min_eq_right (by omega)]
  rw[e2]
  refine wn_stop e _ ?_
  rw[e]
  exact hq
 |m+1,i,hi=>by
  have g:=List.getElem?_eq_getElem (show i<l.length by omega)
  have ih:=wn_run hq m (i+1) (by omega)
  rw[take_snoc g,List.map_append] at ih
  exact wn_step g (by omega) _ (by rw[List.length_map,List.length_take];omega) ih
end
theorem wn_at:loopsAt (fnCode Tryz.prog 56) 4=[lpCode Tryz.prog 56 4]:=by kernel_rfl
theorem part_at0 (a:At) (r:List At):partA Tryz.prog 39 (flT (a::r)) 0=some (atA a):=by
 have h1:isAggA Tryz.prog 39=some true:=by kernel_rfl
 have h2:sizeA Tryz.prog 39=some 7:=by kernel_rfl
 simp only[partA,h1,h2]
 rw[flT_cons,←atC_len a,chunk_all]
 rfl
theorem frz_ats {H:Heap} {id:Nat} {L:List At} {c:List AV} {k:Nat} (hg:hget H id=some (.cells c)) (hc:c=flT L) (hk:k=L.length):Frz 0 H (.rsl true id 0 k 7) (.fsl false (L.map atA)):=
 .row (len:=k) rfl hg hc (by rw[hk,List.length_map]) (fun e he=>by obtain ⟨a,_,rfl⟩:=List.mem_map.1 he;exact good_at a) (closed_ats L)
theorem want_sem (l:List Rw) (how:Int):SC 56 [.fsl false (l.map rwA),I how] (.fsl false ((wantS how l).map atA)):=by
 have hR:=closed_rws l
 have hcl:closedAll [.fsl false (l.map rwA),I how]=true:=by simp only[closedAll,closedA,hR,Bool.and_self]
 have hrun:=fun (Q:AExit→St→Prop) hq=>wn_run (l:=l) (how:=how) (Q:=Q) hq (min l.length 4) 0 (Nat.zero_add _)
 rw[List.take_zero] at hrun
 have hbl:(wBase how l).length≤4:=by unfold wBase;rw[List.length_map,List.length_take];omega
 unfold wantS
 generalize wBase how l=L at hrun hbl⊢
 cases L with
 | nil=>
  refine fnK_semX (A:=aidJ [] [(4,wnL (wnV0 0 how (l.map rwA)) (wnV0 (.ofNat (min l.length 4)) how (l.map rwA)))] noSem [] []) base0 aidJ_ok
   (fnLs_of (LsOk.at1 rfl wn_at fun st Q hs=> .seen base0.glob hs.1 (hrun Q hs.2))) hcl ?_
  rw[wn_fn0]
  have e:(match beqInt (how.tmod 3) 0,([]:List At) with|true,a::r=>a::r++[a]|_,b=>b)=[]:=by cases beqInt (how.tmod 3) 0<;>rfl
  rw[e]
  exact ⟨⟨⟨⟨rfl,hR⟩,⟨rfl,rfl⟩,⟨rfl,rfl⟩,⟨rfl,rfl⟩,trivial⟩,trivial,trivial⟩,mtB_of (fun _=>⟨.nilsl,(Frz.closed _ rfl).out,rfl,.nil⟩) fun _=>⟨.nilsl,(Frz.closed _ rfl).out,rfl,.nil⟩⟩
 | cons a r=>
  simp only[List.length_cons] at hbl
  have h0:=part_at0 a r
  have hp:=one_at a
  have hask:=ask_at a (k:=r.length+1) (by omega)
  have hl7:=len_flT (a::r)
  obtain ⟨s,ix,⟨t,yy,n,d,ks⟩⟩:=a
  refine fnK_semX (A:=aidJ [(10,3,.ld (.agg (.str s::I ix::itF t yy n (toBytes d) (itAs ks))))] [(4,wnL (wnV0 0 how (l.map rwA)) (wnV1 (.ofNat (min l.length 4)) how (l.map rwA) (r.length+1) (flT (⟨s,ix,.mk t yy n d ks⟩::r))))] noSem [] []) base0 aidJ_ok
   (fnLs_of (LsOk.at1 rfl wn_at fun st Q hs=> .seen base0.glob hs.1 (hrun Q hs.2))) hcl ?_
  rw[wn_fn1]
  refine ⟨⟨⟨⟨rfl,hR⟩,⟨rfl,rfl⟩,⟨rfl,rfl⟩,⟨rfl,rfl⟩,trivial⟩,trivial,trivial⟩,mtB_of (fun e=>mtT (ltInt_iff.2 (by simp only[Int.ofNat_eq_natCast];omega)) (oblB_of rfl ⟨h0,oblB_of hask (oblB_of hl7 ?_)⟩)) fun e=> ?_⟩
  ·rw[e]
   exact ⟨_,(frz_ats (L:=⟨s,ix,.mk t yy n d ks⟩::r++[⟨s,ix,.mk t yy n d ks⟩]) rfl (by rw[flT_app];rfl) (by rw[lenN_eq];simp)).out,closed_ats _,.refl _⟩
  ·rw[e]
   exact ⟨_,(frz_ats (L:=⟨s,ix,.mk t yy n d ks⟩::r) rfl rfl rfl).out,closed_ats _,.refl _⟩
theorem want_len (how:Int) (l:List Rw):(wantS how l).length≤5:=by
 have hbl:(wBase how l).length≤4:=by unfold wBase;rw[List.length_map,List.length_take];omega
 unfold wantS
 generalize wBase how l=L at hbl⊢
 cases L with
 |nil=>cases beqInt (how.tmod 3) 0<;>exact Nat.zero_le _
 |cons a r=>
  cases beqInt (how.tmod 3) 0 with
  |true=>simp only[List.length_append,List.length_singleton];omega
  |false=>dsimp only;omega
theorem want_name {how:Int} {l:List Rw} {a:At} (h:a∈wantS how l):a.name∈nameL:=by
 have hb:∀a∈wBase how l,a.name∈nameL:=fun a ha=>by
  obtain ⟨y,_,rfl⟩:=List.mem_map.1 ha
  have:(attrI y).name∈nameL:=ofL_mem nameL [] y.k (by simp[nameL])
  unfold wAt
  split<;>exact this
 unfold wantS at h
 revert hb h
 generalize wBase how l=L
 intro h hb
 cases L with
 |nil=>cases hq:beqInt (how.tmod 3) 0<;>rw[hq] at h<;>cases h
 | cons a' r=>
  cases hq:beqInt (how.tmod 3) 0 with
  | true=>
   rw[hq] at h
   rcases List.mem_append.1 h with h|h
   ·exact hb a h
   ·rw[List.mem_singleton] at h
    rw[h]
    exact hb a' List.mem_cons_self
  |false=>
   rw[hq] at h
   exact hb a h
def knwS (s:List UInt8):Bool:=match findK (cusB s) s with
 |none=>false
 |some _=>true
def typS (s:List UInt8):Int:=match findK (cusB s) s with
 |none=>0
 |some k=>(hdK k).ty
section
variable {s:List UInt8}
theorem knw_sem (hs:s∈nameL):SC 46 [.str s] (.bool (knwS s)):=by
 have hf:=find_sem (cus_sem s hs)
 unfold knwS
 cases hk:findK (cusB s) s with
 |none=>
  dsimp only
  rw[hk] at hf
  refine fnK_semE (A:=ofQ rowZ false []) base0 aidJ_ok (fnLs_of (LsOk.no rfl)) rfl ?_
  have e:rowZ= .agg (rowW ⟨[],0,false,false⟩ .nilFunc .nilFunc .nilFunc .nilFunc .nilFunc .nilFunc .nilFunc .nilFunc):=rfl
  rw[rowO,e] at hf
  have hz:=fits_rowZ
  rw[e] at hz⊢
  rw[knw_fn]
  exact ⟨hf,oblB_of hz (end_self rfl)⟩
 |some k=>
  dsimp only
  rw[hk] at hf
  have hfit:=fits_row k
  refine fnK_semE (A:=ofQ (.agg (rowC k)) true []) base0 aidJ_ok (fnLs_of (LsOk.no rfl)) rfl ?_
  rw[rowO_some,fiT] at hf
  rw[rowC_eq] at hf hfit⊢
  rw[knw_fn]
  exact ⟨hf,oblB_of hfit (end_self rfl)⟩
theorem typ_sem (hs:s∈nameL):SC 146 [.str s] (I (typS s)):=by
 have hf:=find_sem (cus_sem s hs)
 unfold typS
 cases hk:findK (cusB s) s with
 |none=>
  dsimp only
  rw[hk] at hf
  refine fnK_semE (A:=ofQ rowZ false []) base0 aidJ_ok (fnLs_of (LsOk.no rfl)) rfl ?_
  have e:rowZ= .agg (rowW ⟨[],0,false,false⟩ .nilFunc .nilFunc .nilFunc .nilFunc .nilFunc .nilFunc .nilFunc .nilFunc):=rfl
  rw[rowO,e] at hf
  have hz:=fits_rowZ
  rw[e] at hz⊢
  rw[typ_fn]
  exact ⟨hf,oblB_of hz (end_self rfl)⟩
 |some k=>
  dsimp only
  rw[hk] at hf
  have hfit:=fits_row k
  refine fnK_semE (A:=ofQ (.agg (rowC k)) true []) base0 aidJ_ok (fnLs_of (LsOk.no rfl)) rfl ?_
  rw[rowO_some,fiT] at hf
  rw[rowC_eq] at hf hfit⊢
  rw[typ_fn]
  exact ⟨hf,oblB_of hfit (end_self rfl)⟩
end
def rightB (L:List At) (a:At):Bool:=match beqInt (typS a.name) (itY a.v) with
 |false=>false
 | true=>match beqInt a.idx 0 with
  |false=>false
  |true=>match beqInt (itY a.v) 9 with
   |false=>true
   |true=> !ltInt 2 (.ofNat (valsL a.name L).length)
theorem mrt_sem {a:At} {L:List At} (hs:a.name∈nameL) (hb:L.length≤1000):SC 106 [atA a,.fsl false (L.map atA)] (.bool (rightB L a)):=by
 have ht:=typ_sem hs
 have hd:=isd_sem a
 have hv:=vals_sem (l:=L) (by omega) a.name
 have hL:=closed_ats L
 have hc:=closed_atA a
 have hcl:closedAll [atA a,.fsl false (L.map atA)]=true:=by simp only[closedAll,closedA,hL,hc,Bool.and_self]
 have hln:lenN (itAs (valsL a.name L))=(valsL a.name L).length:=by rw[lenN_eq,its_length]
 unfold rightB
 generalize valsL a.name L=Vs at hv hln⊢
 generalize typS a.name=ty at ht⊢
 obtain ⟨s,idx,⟨t,y,q,d,ks⟩⟩:=a
 rw[atA_F] at hd hcl⊢
 refine fnK_semV (A:=rtA ty (beqInt y 9) (itAs Vs)) base0 aidJ_ok (fnLs_of (LsOk.no rfl)) hcl rfl ?_
 rw[rt_fn,hln]
 show _∧_
 have e1:itY ⟨t,y,q,d,ks⟩=y:=rfl
 rw[e1] at hd⊢
 exact ⟨ht,mtB_of (fun e=>mtB_of (fun e2=>⟨hd,mtB_of (fun e3=>⟨hv,by simp only[e,e2,e3]⟩) fun e3=>by simp only[e,e2,e3]⟩) fun e2=>by simp only[e,e2]) fun e=>by simp only[e]⟩
def rightI (L:List At):Int:=match ltInt 20 (.ofNat L.length) with
 |true=>7
 |false=>match L.any (pD knwS (rightB L)) with
  |true=>7
  |false=>0
theorem mright_sem {L:List At} (hn:∀a∈L,a.name∈nameL) (hb:L.length≤1000):SC 55 [.fsl false (L.map atA)] (I (rightI L)):=by
 have hL:=closed_ats L
 have hcl:closedAll [.fsl false (L.map atA)]=true:=by simp only[closedAll,closedA,hL,Bool.and_self]
 have hln:lenN (L.map atA)=L.length:=by rw[lenN_eq,List.length_map]
 have hcf:=xd_cfb (l:=L) (Ls:=L.map atA) (kn:=knwS) (rt:=rightB L) hL (fun a ha=>knw_sem (hn a ha)) (fun a ha=>mrt_sem (hn a ha) hb) (by omega)
 have hcf:=ren1c (K:=0) (m:=10) (m':=40) (args2:=[.fsl false (L.map atA),.func (.func 105) [] [.ptr 0 0]]) (H2:=[(0,some (.cells [.fsl false (L.map atA)]))]) hcf rfl ⟨.same _ hL,renF ⟨.ptr _ _ _ rfl,trivial⟩,trivial⟩ rfl (by simp only[closedAll,closedA,hL,Bool.and_self]) (by omega) (by omega)
 unfold rightI
 refine fnK_semV (A:=aidJ [] [] (riT (L.any (pD knwS (rightB L))) (L.map atA)) [] []) base0 aidJ_ok (fnLs_of (LsOk.no rfl)) hcl rfl ?_
 rw[ri_fn,hln]
 exact mtB_of (fun e=>by simp only[e]) fun e=>⟨hcf,mtB_of (fun e2=>by simp only[e,e2]) fun e2=>by simp only[e,e2]⟩
end Go.Proofs.YtjhggnebkfpgcaaGreatDoor
