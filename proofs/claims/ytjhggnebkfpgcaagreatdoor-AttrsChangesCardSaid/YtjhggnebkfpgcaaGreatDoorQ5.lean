import Derived.Test.YtjhggnebkfpgcaaGreatDoorQ4
import Derived.KernelRfl
import Derived.Test.YtjhggnebkfpgcaaGreatDoorQ3
namespace Go.Proofs.YtjhggnebkfpgcaaGreatDoor
open Go Go.RowKit _root_.Go.Proofs.Tryz
open Go.Proofs.Abs
def bH (id w:Nat):Nat→AV
 |0=> .nilsl
 |k+1=> .rsl true id 0 (k+1) w
def nb (l:List AV):Nat→Option Blk
 |0=>none
 |_+1=>some (.cells l)
theorem qS (id w:Nat):∀n,Rv id (bH id w n)
 |0=>fun _ _=> .same _ rfl
 |_+1=>fun _ h=> .rsl _ _ _ _ _ _ h
theorem qT {l:List AV} (h:ae l=true):∀n,aq (nb l n)
 |0=>⟨trivial⟩
 |_+1=>⟨h⟩
noncomputable def nq (i:Nat) (Rs:List AV) (M:AV) (o:Ob) (N:List (List UInt8)) (L:List Lk) (C:List Cu):St:=aQ (oW (.ofNat i) Rs (aa o M (bH 1 1 N.length) (bH 2 2 L.length) (bH 3 2 C.length)) []) [(1,nb (N.map .str) N.length),(2,nb (flat (L.map aL)) L.length),(3,nb (flat (C.map az)) C.length)]
structure OxZ (o:Ob):Prop where
 d:∀k,(dh o k).has=false→(dh o k).t=0
 l:o.lh=false→o.lt=0∧o.lc=0∧o.lu=0
theorem UT (o:Ob) (x:Dt) (d k:Nat):dh (aV o x d) k=x∨dh (aV o x d) k=dh o k:=by
 unfold aV dh;split<;>split<;>simp
theorem OxZ.date {o:Ob} (h:OxZ o) (t:Int) (d:Nat):OxZ (aV o ⟨true,t⟩ d):=⟨fun k hk=>by
 rcases UT o ⟨true,t⟩ d k with e|e
 ·rw[e] at hk;cases hk
 ·rw[e] at hk⊢;exact h.d k hk,by
 unfold aV;split<;>exact h.l⟩
theorem tS {o p:Ob} (h0:p.d0=o.d0) (h1:p.d1=o.d1) (h2:p.d2=o.d2) (h3:p.d3=o.d3) (h4:p.d4=o.d4) (h5:p.d5=o.d5) (h6:p.d6=o.d6) (h7:p.d7=o.d7) (h8:p.d8=o.d8) (h9:p.d9=o.d9) (k:Nat):dh p k=dh o k:=by
 unfold dh;split<;>assumption
theorem OxZ.of {o p:Ob} (h:OxZ o) (hd:∀k,dh p k=dh o k) (hl:p.lh=false→p.lt=0∧p.lc=0∧p.lu=0):OxZ p:=⟨fun k=>by rw[hd];exact h.d k,hl⟩
structure OxI (n:Nat) (o:Ob) (N:List (List UInt8)) (L:List Lk) (C:List Cu):Prop where
 n1:∀s∈N,s∈nmL
 n2:N.Nodup
 l1:L.length≤n
 l2:L.Nodup
 l3:∀x∈L,x.id∈idL
 c1:C.length≤6
 c2:C.Nodup
 c3:∀x∈C,x.name∈cnL∧x.text∈ctL
 id:o.id∈idL
 msg:o.msg∈msL
 dat:o.d0.has=true
 z:OxZ o
theorem Ih {α:Type} [DecidableEq α]:∀ (l m:List α),l.Nodup→(∀x∈l,x∈m)→l.length≤m.length
 |[],_,_,_=>Nat.zero_le _
 |a::t,m,h,hs=>by
  have h:=List.nodup_cons.1 h;have ha:=hs a (by simp);have:=Ih t (m.erase a) h.2 fun x hx=>(List.mem_erase_of_ne (fun e=>by subst e;exact h.1 hx)).2 (hs x (by simp[hx]));rw[List.length_erase_of_mem ha] at this;have:=List.length_pos_of_mem ha;simp only[lConQ];omega
theorem OxI.names {n:Nat} {o:Ob} {N:List (List UInt8)} {L:List Lk} {C:List Cu} (h:OxI n o N L C):N.length≤5:=Ih N nmL h.n2 h.n1
theorem UU {l:List (List UInt8)} {s:List UInt8} (h:lM l s=false):s∉l:=fun hm=>by
 have:lM l s=true:=List.any_eq_true.2 ⟨s,hm,beqBytes_iff.2 rfl⟩;rw[this] at h;cases h
theorem UV {l:List Lk} {x:Lk} (h:nn x l=false):x∉l:=fun hm=>by
 have:nn x l=true:=List.any_eq_true.2 ⟨x,hm,by simp[wL,beqInt_iff,beqBytes_iff]⟩;rw[this] at h;cases h
theorem UW {l:List Cu} {x:Cu} (h:lQ x l=false):x∉l:=fun hm=>by
 have:lQ x l=true:=List.any_eq_true.2 ⟨x,hm,by simp[wM,beqBytes_iff]⟩;rw[this] at h;cases h
theorem Bv {α:Type} {l:List α} {x:α} (h:l.Nodup) (hx:x∉l):(l++[x]).Nodup:=by
 rw[List.nodup_append];refine ⟨h,by simp,fun a ha b hb=> ?_⟩;rw[List.mem_singleton] at hb;subst hb;intro e;subst e;exact hx ha
theorem qU {α:Type} {l:List α} {x:α} {p:α→Prop} (h:∀y∈l,p y) (hx:p x):∀y∈l++[x],p y:=fun y hy=>by
 rcases List.mem_append.1 hy with hy|hy
 ·exact h y hy
 ·rw[List.mem_singleton] at hy;subst hy;exact hx
theorem OxI.more {n:Nat} {o:Ob} {N:List (List UInt8)} {L:List Lk} {C:List Cu} (h:OxI n o N L C):OxI (n+1) o N L C:=⟨h.n1,h.n2,Nat.le_succ_of_le h.l1,h.l2,h.l3,h.c1,h.c2,h.c3,h.id,h.msg,h.dat,h.z⟩
theorem OxI.date {n:Nat} {o:Ob} {N:List (List UInt8)} {L:List Lk} {C:List Cu} (h:OxI n o N L C) (t:Int):∀d,OxI (n+1) (aV o ⟨true,t⟩ d) N L C
 |0=>⟨h.n1,h.n2,Nat.le_succ_of_le h.l1,h.l2,h.l3,h.c1,h.c2,h.c3,h.id,h.msg,rfl,h.z.date t 0⟩
 |1=>⟨h.n1,h.n2,Nat.le_succ_of_le h.l1,h.l2,h.l3,h.c1,h.c2,h.c3,h.id,h.msg,h.dat,h.z.date t 1⟩
 |2=>⟨h.n1,h.n2,Nat.le_succ_of_le h.l1,h.l2,h.l3,h.c1,h.c2,h.c3,h.id,h.msg,h.dat,h.z.date t 2⟩
 |3=>⟨h.n1,h.n2,Nat.le_succ_of_le h.l1,h.l2,h.l3,h.c1,h.c2,h.c3,h.id,h.msg,h.dat,h.z.date t 3⟩
 |4=>⟨h.n1,h.n2,Nat.le_succ_of_le h.l1,h.l2,h.l3,h.c1,h.c2,h.c3,h.id,h.msg,h.dat,h.z.date t 4⟩
 |5=>⟨h.n1,h.n2,Nat.le_succ_of_le h.l1,h.l2,h.l3,h.c1,h.c2,h.c3,h.id,h.msg,h.dat,h.z.date t 5⟩
 |6=>⟨h.n1,h.n2,Nat.le_succ_of_le h.l1,h.l2,h.l3,h.c1,h.c2,h.c3,h.id,h.msg,h.dat,h.z.date t 6⟩
 |7=>⟨h.n1,h.n2,Nat.le_succ_of_le h.l1,h.l2,h.l3,h.c1,h.c2,h.c3,h.id,h.msg,h.dat,h.z.date t 7⟩
 |8=>⟨h.n1,h.n2,Nat.le_succ_of_le h.l1,h.l2,h.l3,h.c1,h.c2,h.c3,h.id,h.msg,h.dat,h.z.date t 8⟩
 |9=>⟨h.n1,h.n2,Nat.le_succ_of_le h.l1,h.l2,h.l3,h.c1,h.c2,h.c3,h.id,h.msg,h.dat,h.z.date t 9⟩
 |_+10=>⟨h.n1,h.n2,Nat.le_succ_of_le h.l1,h.l2,h.l3,h.c1,h.c2,h.c3,h.id,h.msg,h.dat,h.z.date t _⟩
theorem gp {S S2:St} {Q:AExit→St→Prop} {b:Code} (h:ALp prog opts0.glob 0 b S2 Q) (h1:S2.slots=S.slots) (h2:∀i b,hget S2.heap i=some b→hget S.heap i=some b) (h3:S2.nx=S.nx) (h4:S2.n=S.n):ALp prog opts0.glob 0 b S Q:=h.says (.sub h1 h2 h3 h4)
theorem UX {l:List Rw} {i:Nat} {y:Rw} {M:AV} (hy:l[i]? =some y) (hi:i<10) (hM:ag M=true) {o:Ob} {N:List (List UInt8)} {L:List Lk} {C:List Cu} (h:OxI i o N L C):∃o' N' L' C',OxI (i+1) o' N' L' C'∧cf (nq i (l.map aU) M o N L C) (nq (i+1) (l.map aU) M o' N' L' C'):=by
 have g:=TY hy hi;have rN:=qS 1 1 N.length;have rL:=qS 2 2 L.length;have rC:=qS 3 2 C.length;have bn:=qT (fN N) N.length;have bl:=qT (m9 L) L.length;have bc:=qT (fa C) C.length;obtain ⟨k,hk,hlt⟩:=ti (n:=y.k) (m:=9) (by decide);obtain ⟨d,hd,hdlt⟩:=ti (n:=y.a) (m:=10) (by decide)
 match k,hk,hlt with
 |0,hk,_=>
  match d,hd,hdlt with
  |0,hd,_=>exact ⟨_,N,L,C,h.date (y.b%60) 0,TZ o g hM rN rL rC bn bl bc hk hd⟩
  |1,hd,_=>exact ⟨_,N,L,C,h.date (y.b%60) 1,T0 o g hM rN rL rC bn bl bc hk hd⟩
  |2,hd,_=>exact ⟨_,N,L,C,h.date (y.b%60) 2,T2 o g hM rN rL rC bn bl bc hk hd⟩
  |3,hd,_=>exact ⟨_,N,L,C,h.date (y.b%60) 3,T3 o g hM rN rL rC bn bl bc hk hd⟩
  |4,hd,_=>exact ⟨_,N,L,C,h.date (y.b%60) 4,T4 o g hM rN rL rC bn bl bc hk hd⟩
  |5,hd,_=>exact ⟨_,N,L,C,h.date (y.b%60) 5,T5 o g hM rN rL rC bn bl bc hk hd⟩
  |6,hd,_=>exact ⟨_,N,L,C,h.date (y.b%60) 6,T6 o g hM rN rL rC bn bl bc hk hd⟩
  |7,hd,_=>exact ⟨_,N,L,C,h.date (y.b%60) 7,T7 o g hM rN rL rC bn bl bc hk hd⟩
  |8,hd,_=>exact ⟨_,N,L,C,h.date (y.b%60) 8,T8 o g hM rN rL rC bn bl bc hk hd⟩
  |9,hd,_=>exact ⟨_,N,L,C,h.date (y.b%60) 9,T9 o g hM rN rL rC bn bl bc hk hd⟩
  |_+10,_,hdlt=>exact absurd hdlt (by omega)
 |1,hk,_=>
  match d,hd,hdlt with
  |0,hd,_=>exact ⟨_,N,L,C,h.date (y.b%60) 0,Ua o g hM rN rL rC bn bl bc hk hd⟩
  |1,hd,_=>exact ⟨_,N,L,C,h.date (y.b%60) 1,Ub o g hM rN rL rC bn bl bc hk hd⟩
  |2,hd,_=>exact ⟨_,N,L,C,h.date (y.b%60) 2,Uc o g hM rN rL rC bn bl bc hk hd⟩
  |3,hd,_=>exact ⟨_,N,L,C,h.date (y.b%60) 3,Ud o g hM rN rL rC bn bl bc hk hd⟩
  |4,hd,_=>exact ⟨_,N,L,C,h.date (y.b%60) 4,Ue o g hM rN rL rC bn bl bc hk hd⟩
  |5,hd,_=>exact ⟨_,N,L,C,h.date (y.b%60) 5,Uf o g hM rN rL rC bn bl bc hk hd⟩
  |6,hd,_=>exact ⟨_,N,L,C,h.date (y.b%60) 6,Ug o g hM rN rL rC bn bl bc hk hd⟩
  |7,hd,_=>exact ⟨_,N,L,C,h.date (y.b%60) 7,Uh o g hM rN rL rC bn bl bc hk hd⟩
  |8,hd,_=>exact ⟨_,N,L,C,h.date (y.b%60) 8,Ui o g hM rN rL rC bn bl bc hk hd⟩
  |9,hd,_=>exact ⟨_,N,L,C,h.date (y.b%60) 9,Uj o g hM rN rL rC bn bl bc hk hd⟩
  |_+10,_,hdlt=>exact absurd hdlt (by omega)
 |2,hk,_=>
  match d,hd,hdlt with
  |0,hd,_=>exact ⟨_,N,L,C,h.date (y.b%60) 0,Uk o g hM rN rL rC bn bl bc hk hd⟩
  |1,hd,_=>exact ⟨_,N,L,C,h.date (y.b%60) 1,Ul o g hM rN rL rC bn bl bc hk hd⟩
  |2,hd,_=>exact ⟨_,N,L,C,h.date (y.b%60) 2,Um o g hM rN rL rC bn bl bc hk hd⟩
  |3,hd,_=>exact ⟨_,N,L,C,h.date (y.b%60) 3,Un o g hM rN rL rC bn bl bc hk hd⟩
  |4,hd,_=>exact ⟨_,N,L,C,h.date (y.b%60) 4,Uo o g hM rN rL rC bn bl bc hk hd⟩
  |5,hd,_=>exact ⟨_,N,L,C,h.date (y.b%60) 5,Up o g hM rN rL rC bn bl bc hk hd⟩
  |6,hd,_=>exact ⟨_,N,L,C,h.date (y.b%60) 6,Uq o g hM rN rL rC bn bl bc hk hd⟩
  |7,hd,_=>exact ⟨_,N,L,C,h.date (y.b%60) 7,Ur o g hM rN rL rC bn bl bc hk hd⟩
  |8,hd,_=>exact ⟨_,N,L,C,h.date (y.b%60) 8,Ut o g hM rN rL rC bn bl bc hk hd⟩
  |9,hd,_=>exact ⟨_,N,L,C,h.date (y.b%60) 9,Uu o g hM rN rL rC bn bl bc hk hd⟩
  |_+10,_,hdlt=>exact absurd hdlt (by omega)
 | 3,hk,_=>
  match N,h,bn with
  |[],h,_=>
   refine ⟨o,[aO nmL [] y.a],L,C,⟨qU (l:=[]) (fun _ h=>by cases h) (iq _ _ _ (by decide)),by simp,Nat.le_succ_of_le h.l1,h.l2,h.l3,h.c1,h.c2,h.c3,h.id,h.msg,h.dat,h.z⟩,fun Q hq=> ?_⟩;exact gp (Uz o g hM rL rC bl bc hk Q hq) rfl (fun i b h=>match i,h with|0,h=>h|1,h=>h|2,h=>h|3,h=>h|4,h=>h|_+5,h=>h) rfl rfl
  | s::N,h,_=>
   have hl:=h.names;cases hin:lM (s::N) (aO nmL [] y.a) with
   |true=>exact ⟨o,s::N,L,C,h.more,fun Q hq=>UA o g hM rL rC bl bc hk (l:=s::N) (by omega) hin Q hq⟩
   |false=>
    refine ⟨o,s::N++[aO nmL [] y.a],L,C,⟨qU h.n1 (iq _ _ _ (by decide)),Bv h.n2 (UU hin),Nat.le_succ_of_le h.l1,h.l2,h.l3,h.c1,h.c2,h.c3,h.id,h.msg,h.dat,h.z⟩,fun Q hq=> ?_⟩;refine UB o g hM rL rC bl bc hk (l:=s::N) (by omega) hin Q ?_;have e1:(s::N++[aO nmL [] y.a]).length=(s::N).length+1:=by simp
    have e2:(s::N++[aO nmL [] y.a]).map AV.str=(s::N).map .str++[.str (aO nmL [] y.a)]:=by simp
    unfold nq at hq;rw[e1,e2] at hq;exact hq
 | 4,hk,_=>
  match L,h,bl with
  |[],h,_=>
   refine ⟨o,N,[kw y],C,⟨h.n1,h.n2,by simp,by simp,qU (l:=[]) (fun _ h=>by cases h) (iq idL _ _ (by decide)),h.c1,h.c2,h.c3,h.id,h.msg,h.dat,h.z⟩,fun Q hq=> ?_⟩;exact gp (UD o g hM rN rC bn bc hk Q (gp hq rfl (fun i b h=>match i,h with|0,h=>h|1,h=>h|2,h=>h|3,h=>h|4,h=>h|_+5,h=>h) rfl rfl)) rfl (fun i b h=>match i,h with|0,h=>h|1,h=>h|2,h=>h|3,h=>h|4,h=>h|_+5,h=>h) rfl rfl
  | s::L,h,_=>
   have hl:=h.l1;cases hin:nn (kw y) (s::L) with
   |true=>exact ⟨o,N,s::L,C,h.more,fun Q hq=>gp (UE o g hM rN rC bn bc hk (l:=s::L) (by omega) hin Q (gp hq rfl (fun i b h=>match i,h with|0,h=>h|1,h=>h|2,h=>h|3,h=>h|4,h=>h|_+5,h=>h) rfl rfl)) rfl (fun i b h=>match i,h with|0,h=>h|1,h=>h|2,h=>h|3,h=>h|4,h=>h|_+5,h=>h) rfl rfl⟩
   |false=>
    refine ⟨o,N,s::L++[kw y],C,⟨h.n1,h.n2,by simp only[List.length_append,List.length_singleton];omega,Bv h.l2 (UV hin),qU h.l3 (iq idL _ _ (by decide)),h.c1,h.c2,h.c3,h.id,h.msg,h.dat,h.z⟩,fun Q hq=> ?_⟩;have e1:(s::L++[kw y]).length=(s::L).length+1:=by simp
    have e2:flat ((s::L++[kw y]).map aL)=flat ((s::L).map aL)++[I (aj .i64 (101+y.a%5)),.str (aO idL [] y.b)]:=by rw[List.map_append,ea];rfl
    unfold nq at hq;rw[e1,e2] at hq;exact gp (UF o g hM rN rC bn bc hk (l:=s::L) (by omega) hin Q (gp hq rfl (fun i b h=>match i,h with|0,h=>h|1,h=>h|2,h=>h|3,h=>h|4,h=>h|_+5,h=>h) rfl rfl)) rfl (fun i b h=>match i,h with|0,h=>h|1,h=>h|2,h=>h|3,h=>h|4,h=>h|_+5,h=>h) rfl rfl
 |5,hk,_=>exact ⟨wI o y,N,L,C,⟨h.n1,h.n2,Nat.le_succ_of_le h.l1,h.l2,h.l3,h.c1,h.c2,h.c3,h.id,h.msg,h.dat,h.z.of (tS rfl rfl rfl rfl rfl rfl rfl rfl rfl rfl) fun h=>by cases h⟩,Uv o g hM rN rL rC bn bl bc hk⟩
 | 6,hk,_=>
  match C,h,bc with
  |[],h,_=>
   refine ⟨o,N,L,[jo y],⟨h.n1,h.n2,Nat.le_succ_of_le h.l1,h.l2,h.l3,by simp,by simp,qU (l:=[]) (fun _ h=>by cases h) ⟨iq cnL _ _ (by decide),iq ctL _ _ (by decide)⟩,h.id,h.msg,h.dat,h.z⟩,fun Q hq=> ?_⟩;exact gp (UH o g hM rN rL bn bl hk Q (gp hq rfl (fun i b h=>match i,h with|0,h=>h|1,h=>h|2,h=>h|3,h=>h|4,h=>h|_+5,h=>h) rfl rfl)) rfl (fun i b h=>match i,h with|0,h=>h|1,h=>h|2,h=>h|3,h=>h|4,h=>h|_+5,h=>h) rfl rfl
  | s::C,h,_=>
   have hl:=h.c1;cases hin:lQ (jo y) (s::C) with
   |true=>exact ⟨o,N,L,s::C,h.more,fun Q hq=>gp (UI o g hM rN rL bn bl hk (l:=s::C) (by omega) hin Q (gp hq rfl (fun i b h=>match i,h with|0,h=>h|1,h=>h|2,h=>h|3,h=>h|4,h=>h|_+5,h=>h) rfl rfl)) rfl (fun i b h=>match i,h with|0,h=>h|1,h=>h|2,h=>h|3,h=>h|4,h=>h|_+5,h=>h) rfl rfl⟩
   | false=>
    by_cases h6:(s::C).length<6
    ·refine ⟨o,N,L,s::C++[jo y],⟨h.n1,h.n2,Nat.le_succ_of_le h.l1,h.l2,h.l3,by simp only[List.length_append,List.length_singleton];omega,Bv h.c2 (UW hin),qU h.c3 ⟨iq cnL _ _ (by decide),iq ctL _ _ (by decide)⟩,h.id,h.msg,h.dat,h.z⟩,fun Q hq=> ?_⟩;have e1:(s::C++[jo y]).length=(s::C).length+1:=by simp
     have e2:flat ((s::C++[jo y]).map az)=flat ((s::C).map az)++[.str (aO cnL [] y.a),.str (aO ctL [] y.b)]:=by rw[List.map_append,ea];rfl
     unfold nq at hq;rw[e1,e2] at hq;exact gp (UJ o g hM rN rL bn bl hk (l:=s::C) (by omega) hin h6 Q (gp hq rfl (fun i b h=>match i,h with|0,h=>h|1,h=>h|2,h=>h|3,h=>h|4,h=>h|_+5,h=>h) rfl rfl)) rfl (fun i b h=>match i,h with|0,h=>h|1,h=>h|2,h=>h|3,h=>h|4,h=>h|_+5,h=>h) rfl rfl
    ·exact ⟨o,N,L,s::C,h.more,fun Q hq=>gp (UK o g hM rN rL bn bl hk (l:=s::C) (by omega) hin (by omega) Q (gp hq rfl (fun i b h=>match i,h with|0,h=>h|1,h=>h|2,h=>h|3,h=>h|4,h=>h|_+5,h=>h) rfl rfl)) rfl (fun i b h=>match i,h with|0,h=>h|1,h=>h|2,h=>h|3,h=>h|4,h=>h|_+5,h=>h) rfl rfl⟩
 |7,hk,_=>exact ⟨wJ o y,N,L,C,⟨h.n1,h.n2,Nat.le_succ_of_le h.l1,h.l2,h.l3,h.c1,h.c2,h.c3,h.id,iq msL _ _ (by decide),h.dat,h.z.of (tS rfl rfl rfl rfl rfl rfl rfl rfl rfl rfl) h.z.l⟩,Ux o g hM rN rL rC bn bl bc hk⟩
 |8,hk,_=>exact ⟨wK o y,N,L,C,⟨h.n1,h.n2,Nat.le_succ_of_le h.l1,h.l2,h.l3,h.c1,h.c2,h.c3,h.id,h.msg,h.dat,h.z.of (tS rfl rfl rfl rfl rfl rfl rfl rfl rfl rfl) h.z.l⟩,Uy o g hM rN rL rC bn bl bc hk⟩
 |_+9,_,hlt=>exact absurd hlt (by omega)
theorem Ii {l:List Rw} {M:AV} (hM:ag M=true):∀ (m i:Nat) (o:Ob) (N:List (List UInt8)) (L:List Lk) (C:List Cu),i+m=min l.length 10→OxI i o N L C→∃o' N' L' C',OxI 10 o' N' L' C'∧∀Q:AExit→St→Prop,Q (.exit 0) (nq (min l.length 10) (l.map aU) M o' N' L' C')→ALp prog opts0.glob 0 (aJ prog 22 5) (nq i (l.map aU) M o N L C) Q
 | 0,i,o,N,L,C,hm,h=>by
  rw[Nat.add_zero] at hm;have rN:=qS 1 1 N.length;have rL:=qS 2 2 L.length;have rC:=qS 3 2 C.length;have bn:=qT (fN N) N.length;have bl:=qT (m9 L) L.length;have bc:=qT (fa C) C.length;refine ⟨o,N,L,C,⟨h.n1,h.n2,Nat.le_trans h.l1 (by omega),h.l2,h.l3,h.c1,h.c2,h.c3,h.id,h.msg,h.dat,h.z⟩,fun Q hq=> ?_⟩;rw[←hm] at hq;unfold nq at hq⊢;have hc:=iy l
  by_cases hi:i<10
  ·refine ALp.roundO (A:=aB [(4,3,.res (.bool false))] [] aR [] []) (V1:=oW (.ofNat i) (l.map aU) [] []) (F:=oW (.ofNat i) (l.map aU) (aa o M (bH 1 1 N.length) (bH 2 2 L.length) (bH 3 2 C.length)) []) (opt:=[]) (opt':=[(1,nb (N.map .str) N.length),(2,nb (flat (L.map aL)) L.length),(3,nb (flat (C.map az)) C.length)]) (lk:=[]) (lk':=[(0,0),(1,1),(2,2),(3,3),(4,4)]) base0 ar (LsOk.no rfl) .refl ?_;rw[Ie];exact ⟨qQ (by simp only[aM,List.length_map,bh];omega),⟨⟨⟨⟨rfl,hc⟩,rflTwoQ,ad⟩,⟨rflTwoQ,rflTwoQ,ad⟩,bA (o:=o) hM (rN _ rfl) (rL _ rfl) (rC _ rfl),rflTwoQ,ad⟩,⟨rfl,bn⟩,⟨rfl,bl⟩,⟨rfl,bc⟩,ad⟩,hq⟩
  ·by_cases hl:i<l.length
   ·refine ALp.roundO (A:=aB [(4,3,.res (.bool true)),(4,6,.res (.bool false))] [] aR [] []) (V1:=oW (.ofNat i) (l.map aU) [] []) (F:=oW (.ofNat i) (l.map aU) (aa o M (bH 1 1 N.length) (bH 2 2 L.length) (bH 3 2 C.length)) []) (opt:=[]) (opt':=[(1,nb (N.map .str) N.length),(2,nb (flat (L.map aL)) L.length),(3,nb (flat (C.map az)) C.length)]) (lk:=[]) (lk':=[(0,0),(1,1),(2,2),(3,3),(4,4)]) base0 ar (LsOk.no rfl) .refl ?_;rw[UQ];exact ⟨lP (by simp only[aM,List.length_map,bh];omega),qQ (by simp only[bh];omega),⟨⟨⟨⟨rfl,hc⟩,rflTwoQ,ad⟩,⟨rflTwoQ,rflTwoQ,ad⟩,bA (o:=o) hM (rN _ rfl) (rL _ rfl) (rC _ rfl),rflTwoQ,ad⟩,⟨rfl,bn⟩,⟨rfl,bl⟩,⟨rfl,bc⟩,ad⟩,hq⟩
   ·refine ALp.roundO (A:=aB [(4,3,.res (.bool false))] [] aR [] []) (V1:=oW (.ofNat i) (l.map aU) [] []) (F:=oW (.ofNat i) (l.map aU) (aa o M (bH 1 1 N.length) (bH 2 2 L.length) (bH 3 2 C.length)) []) (opt:=[]) (opt':=[(1,nb (N.map .str) N.length),(2,nb (flat (L.map aL)) L.length),(3,nb (flat (C.map az)) C.length)]) (lk:=[]) (lk':=[(0,0),(1,1),(2,2),(3,3),(4,4)]) base0 ar (LsOk.no rfl) .refl ?_;rw[Ie];exact ⟨qQ (by simp only[aM,List.length_map,bh];omega),⟨⟨⟨⟨rfl,hc⟩,rflTwoQ,ad⟩,⟨rflTwoQ,rflTwoQ,ad⟩,bA (o:=o) hM (rN _ rfl) (rL _ rfl) (rC _ rfl),rflTwoQ,ad⟩,⟨rfl,bn⟩,⟨rfl,bl⟩,⟨rfl,bc⟩,ad⟩,hq⟩
 |m+1,i,o,N,L,C,hm,h=>by
  have hi:i<l.length:=by omega
  obtain ⟨o1,N1,L1,C1,h1,s1⟩:=UX (l:=l) (List.getElem?_eq_getElem hi) (by omega) hM h;obtain ⟨o2,N2,L2,C2,h2,s2⟩:=Ii (l:=l) hM m (i+1) o1 N1 L1 C1 (by omega) h1;exact ⟨o2,N2,L2,C2,h2,fun Q hq=>s1 Q (s2 Q hq)⟩
theorem Bw (s:List UInt8):eH 1 (.str s):=rflTwoQ
theorem Ij (l:Lk):eH 2 (aL l):=rflTwoQ
theorem Bx (c:Cu):eH 2 (az c):=rflTwoQ
def fr (l:List AV):AV:=match l with
 |[]=> .nilsl
 |a::t=> .fsl false (a::t)
theorem UY (l:List AV):Wk (fr l) (.fsl false l):=match l with
 |[]=> .nil
 |_::_=> .refl _
theorem Bz {l:List AV} (h:ae l=true):ag (fr l)=true:=match l,h with
 |[],_=>rfl
 |_::_,h=>h
theorem tT:∀l:List (List UInt8),flat (l.map .str)=l.map AV.str
 |[]=>rfl
 |s::t=>by rw[List.map_cons,flat,tT t];rfl
theorem qV {H:ah} {id w:Nat} {es:List AV} {c:List AV} (hid:hget H id=nb c es.length) (hc:c=flat es) (hes:∀e∈es,eH w e) (hcl:ae es=true):Frz 0 H (bH id w es.length) (fr es):=by
 cases es with
 |nil=>exact .closed _ rfl
 |cons a t=>exact .row rfl hid hc rfl hes hcl
theorem tU {H:ah} {o:Ob} {M N L C N' L' C':AV} (hM:ag M=true) (hN:Frz 0 H N N') (hL:Frz 0 H L L') (hC:Frz 0 H C C'):Frz 0 H (.agg (aa o M N L C)) (.agg (aa o M N' L' C')):=by
 refine .agg ?_;simp only[aa]
 repeat (first|exact FrzL.nil|refine FrzL.cons hN ?_|refine FrzL.cons hL ?_|refine FrzL.cons hC ?_|refine FrzL.cons (.closed _ hM) ?_|refine FrzL.cons (.closed _ rfl) ?_)
theorem BA {o:Ob} {m:List UInt8} {N:List (List UInt8)} {L:List Lk} {C:List Cu}:Wk (.agg (aa o (.fsl false (ak m)) (fr (N.map .str)) (fr (L.map aL)) (fr (C.map az)))) (au {o with mat:=m,names:=N,links:=L,cust:=C}):=by
 refine .agg ?_;simp only[ax,aa,b7,bR,bS,bD]
 repeat (first|exact WkL.nil|refine WkL.cons (.refl _) ?_|refine WkL.cons (UY _) ?_)
theorem BB {o:Ob} {m:List UInt8} {N:List (List UInt8)} {L:List Lk} {C:List Cu}:ag (.agg (aa o (.fsl false (ak m)) (fr (N.map .str)) (fr (L.map aL)) (fr (C.map az))))=true:=
 c9 o (g6 m) (Bz (fN N)) (Bz (jN L)) (Bz (iQ C))
theorem UZ (o:Ob) (m:List AV) (n c:Nat):aY prog 33 (.agg (aa o (.fsl false m) (bH 1 1 n) .nilsl (bH 3 2 c))) 37=true:=by
 cases n<;>cases c<;>kernel_rfl
theorem Ik (o:Ob) (m:List AV) (n k c:Nat):aY prog 33 (.agg (aa o (.fsl false m) (bH 1 1 n) (.rsl true 2 0 k 2) (bH 3 2 c))) 37=true:=by
 cases n<;>cases c<;>kernel_rfl
def lS:List Int:=[2,2,3,4,7]
def agL:List Int:=[3,3,0,4]
def lT:List Int:=[396,12,4,384,0]
def nuL:List Nat:=[16,16,32,0,24]
theorem wU {T:Nat} {l:List Int} (hT:T=103) (h5:l.length=5) (n:Int):bf prog T (.agg (l.map I)) (I (n%5))=some (I (aO l 0 n)):=by
 subst hT
 match l,h5 with
 | [a0,a1,a2,a3,a4],_=>
  exact o8 (T:=103) (d:=0) (l:=[a0,a1,a2,a3,a4]) (f:=I) (by simp) fun k x h=>by
   match k,h with
   |0,h=>obtain rfl:_=x:=Option.some.inj h;show bf _ _ _ _=_;kernel_rfl
   |1,h=>obtain rfl:_=x:=Option.some.inj h;show bf _ _ _ _=_;kernel_rfl
   |2,h=>obtain rfl:_=x:=Option.some.inj h;show bf _ _ _ _=_;kernel_rfl
   |3,h=>obtain rfl:_=x:=Option.some.inj h;show bf _ _ _ _=_;kernel_rfl
   |4,h=>obtain rfl:_=x:=Option.some.inj h;show bf _ _ _ _=_;kernel_rfl
theorem Il (n:Int):bf prog 104 (.agg (agL.map I)) (I (n%4))=some (I (aO agL 0 n)):=
 o8 (T:=104) (d:=0) (l:=agL) (f:=I) (by decide) fun k x h=>by
  match k,h with
  |0,h=>obtain rfl:_=x:=Option.some.inj h;show bf _ _ _ _=_;kernel_rfl
  |1,h=>obtain rfl:_=x:=Option.some.inj h;show bf _ _ _ _=_;kernel_rfl
  |2,h=>obtain rfl:_=x:=Option.some.inj h;show bf _ _ _ _=_;kernel_rfl
  |3,h=>obtain rfl:_=x:=Option.some.inj h;show bf _ _ _ _=_;kernel_rfl
theorem U0 (n:Int):bf prog 103 (.agg (nuL.map fun n=>I (.ofNat n))) (I (n%5))=some (I (.ofNat (aO nuL 0 n))):=
 o8 (T:=103) (d:=0) (l:=nuL) (f:=fun n=>I (.ofNat n)) (by decide) fun k x h=>by
  match k,h with
  |0,h=>obtain rfl:_=x:=Option.some.inj h;show bf _ _ _ _=_;kernel_rfl
  |1,h=>obtain rfl:_=x:=Option.some.inj h;show bf _ _ _ _=_;kernel_rfl
  |2,h=>obtain rfl:_=x:=Option.some.inj h;show bf _ _ _ _=_;kernel_rfl
  |3,h=>obtain rfl:_=x:=Option.some.inj h;show bf _ _ _ _=_;kernel_rfl
  |4,h=>obtain rfl:_=x:=Option.some.inj h;show bf _ _ _ _=_;kernel_rfl
structure BD (o:Ob):Prop where
 i:OxI 8 o o.names o.links o.cust
 m:o.mat.length≤32
theorem Im:bW (dI prog 22) 5=[aJ prog 22 5]:=by kernel_rfl
set_option maxRecDepth 20000 in
theorem U1 (x:Rw) (l:List Rw):∃o,BD o∧SC 22 [aU x,.fsl false (l.map aU)] (au o):=by
 have hn:aO nuL 0 (aj .i64 (x.b.tdiv 5))≤32:=(by decide:∀n∈nuL,n≤32) _ (iq nuL 0 _ (by decide));have hbytes:=UP (n:=aO nuL 0 (aj .i64 (x.b.tdiv 5))) (by omega) x.c;have hml:=Bt (aO nuL 0 (aj .i64 (x.b.tdiv 5))) (aj .u64 x.c);have hnu:=U0 (aj .i64 (x.b.tdiv 5));revert hbytes hml hnu hn;generalize aO nuL 0 (aj .i64 (x.b.tdiv 5))=n;generalize np n (aj .u64 x.c)=mat;intro hn hbytes hml hnu;have hcl:ae [aU x,.fsl false (l.map aU)]=true:=by
  have:=iy l;simp only[ae,ag,this,aU,lx,Bool.and_self]
 obtain ⟨o,N,L,C,h,hrun⟩:=Ii (l:=l) (M:= .fsl false (ak mat)) (g6 _) (min l.length 10) 0 (o9 x (aO idL [] x.a) (aO lS 0 x.b) (aO agL 0 x.c) (aO lT 0 (aj .i64 (x.a.tdiv 12))) mat) [] [] [] (Nat.zero_add _)
  ⟨(fun _ h=>by cases h),.nil,Nat.le_refl _,.nil,(fun _ h=>by cases h),by simp,.nil,(fun _ h=>by cases h),iq idL [] _ (by decide),(by decide:([]:List UInt8)∈msL),rfl,⟨fun k hk=>by
   match k,hk with
   |0,hk=>cases hk
   |1,_=>rfl
   |2,_=>rfl
   |3,_=>rfl
   |4,_=>rfl
   |5,_=>rfl
   |6,_=>rfl
   |7,_=>rfl
   |8,_=>rfl
   |9,_=>rfl
   |_+10,_=>rfl,fun _=>⟨rfl,rfl,rfl⟩⟩⟩
 have hR:=iy l
 match L,h,hrun with
 | [],h,hrun=>
  refine ⟨{o with mat:=mat,names:=N,links:=[],cust:=C},⟨⟨h.n1,h.n2,by simp,h.l2,h.l3,h.c1,h.c2,h.c3,h.id,h.msg,h.dat,h.z.of (tS rfl rfl rfl rfl rfl rfl rfl rfl rfl rfl) h.z.l⟩,by show mat.length≤32;omega⟩, ?_⟩;refine dg (A:=wR (aO idL [] x.a) (aO lS 0 x.b) (aO agL 0 x.c) (aO lT 0 (aj .i64 (x.a.tdiv 12))) (.ofNat n) (ak mat) (wS (l.map aU) (o9 x (aO idL [] x.a) (aO lS 0 x.b) (aO agL 0 x.c) (aO lT 0 (aj .i64 (x.a.tdiv 12))) mat) o (ak mat) (.ofNat (min l.length 10)) (bH 1 1 N.length) .nilsl (bH 3 2 C.length) (nb (N.map .str) N.length) none (nb (flat (C.map az)) C.length))) base0 ar
   (aG (LsOk.at1 rfl Im fun st Q hs=> .seenO base0.glob hs.1 (gp (hrun Q hs.2) rfl (fun i b h=>match i,h with|0,h=>h|1,h=>h|2,h=>h|3,h=>h|4,h=>h|_+5,h=>h) rfl rfl))) hcl ?_
  rw[UR];refine ⟨qk _,bu _ (by decide) (by decide),wU (l:=lS) rfl rfl _,bu _ (by decide) (by decide),Il _,bu _ (by decide) (by decide),wU (l:=lT) rfl rfl _,bu _ (by decide) (by decide),hnu,hbytes,bu _ (by decide) (by decide),bu _ (by decide) (by decide),
   ⟨⟨⟨⟨rfl,hR⟩,rflTwoQ,ad⟩,⟨rflTwoQ,rflTwoQ,ad⟩,bA (o:=o9 x (aO idL [] x.a) (aO lS 0 x.b) (aO agL 0 x.c) (aO lT 0 (aj .i64 (x.a.tdiv 12))) mat) (g6 mat) (.same _ rfl) (.same _ rfl) (.same _ rfl),rflTwoQ,ad⟩,ad⟩,
   aD (UZ o _ _ _) ?_⟩
  have f1:=qV (H:=[(4,some (.cells (aa o (.fsl false (ak mat)) (bH 1 1 N.length) .nilsl (bH 3 2 C.length)))),(0,some (.cells (aa o (.fsl false (ak mat)) (bH 1 1 N.length) .nilsl (bH 3 2 C.length)))),(4,some (.cells zC)),(1,nb (N.map .str) N.length),(2,none),(3,nb (flat (C.map az)) C.length)]) (id:=1) (w:=1) (es:=N.map .str) (c:=N.map .str) (by rw[List.length_map];rfl) (tT N).symm (fun e he=>by obtain ⟨s,_,rfl⟩:=List.mem_map.1 he;exact Bw s) (fN N);have f3:=qV (H:=[(4,some (.cells (aa o (.fsl false (ak mat)) (bH 1 1 N.length) .nilsl (bH 3 2 C.length)))),(0,some (.cells (aa o (.fsl false (ak mat)) (bH 1 1 N.length) .nilsl (bH 3 2 C.length)))),(4,some (.cells zC)),(1,nb (N.map .str) N.length),(2,none),(3,nb (flat (C.map az)) C.length)]) (id:=3) (w:=2) (es:=C.map az) (c:=flat (C.map az)) (by rw[List.length_map];rfl) rfl (fun e he=>by obtain ⟨s,_,rfl⟩:=List.mem_map.1 he;exact Bx s) (iQ C);rw[List.length_map] at f1 f3;exact ⟨_,(tU (M:= .fsl false (ak mat)) (g6 mat) f1 (.closed _ rfl) f3).out,BB (L:=[]),BA (L:=[])⟩
 | s::L,h,hrun=>
  have hlen:((s::L).take 8).length≤8:=List.length_take_le _ _;refine ⟨{o with mat:=mat,names:=N,links:=(s::L).take 8,cust:=C},⟨⟨h.n1,h.n2,hlen,h.l2.sublist (List.take_sublist _ _),fun y hy=>h.l3 y (List.mem_of_mem_take hy),h.c1,h.c2,h.c3,h.id,h.msg,h.dat,h.z.of (tS rfl rfl rfl rfl rfl rfl rfl rfl rfl rfl) h.z.l⟩,by show mat.length≤32;omega⟩, ?_⟩;refine dg (A:=wR (aO idL [] x.a) (aO lS 0 x.b) (aO agL 0 x.c) (aO lT 0 (aj .i64 (x.a.tdiv 12))) (.ofNat n) (ak mat) (wS (l.map aU) (o9 x (aO idL [] x.a) (aO lS 0 x.b) (aO agL 0 x.c) (aO lT 0 (aj .i64 (x.a.tdiv 12))) mat) o (ak mat) (.ofNat (min l.length 10)) (bH 1 1 N.length) (.rsl true 2 0 (s::L).length 2) (bH 3 2 C.length) (nb (N.map .str) N.length) (some (.cells (flat ((s::L).map aL)))) (nb (flat (C.map az)) C.length))) base0 ar
   (aG (LsOk.at1 rfl Im fun st Q hs=> .seenO base0.glob hs.1 (gp (hrun Q hs.2) rfl (fun i b h=>match i,h with|0,h=>h|1,h=>h|2,h=>h|3,h=>h|4,h=>h|_+5,h=>h) rfl rfl))) hcl ?_
  rw[US];refine ⟨qk _,bu _ (by decide) (by decide),wU (l:=lS) rfl rfl _,bu _ (by decide) (by decide),Il _,bu _ (by decide) (by decide),wU (l:=lT) rfl rfl _,bu _ (by decide) (by decide),hnu,hbytes,bu _ (by decide) (by decide),bu _ (by decide) (by decide),
   ⟨⟨⟨⟨rfl,hR⟩,rflTwoQ,ad⟩,⟨rflTwoQ,rflTwoQ,ad⟩,bA (o:=o9 x (aO idL [] x.a) (aO lS 0 x.b) (aO agL 0 x.c) (aO lT 0 (aj .i64 (x.a.tdiv 12))) mat) (g6 mat) (.same _ rfl) (.same _ rfl) (.same _ rfl),rflTwoQ,ad⟩,ad⟩,
   ai (fun e=>aD ?_ (aD (Ik o _ _ _ _) ?_)) (fun e=>aD (Ik o _ _ _ _) ?_)⟩
  ·have e:=ltInt_iff.1 e;simp only[bh] at e;exact Nat.ble_eq_true_of_le (by omega)
  ·have e:=ltInt_iff.1 e;simp only[bh] at e;have e8:((s::L).take 8).length=8:=by rw[List.length_take];omega
   have hcut:kP 2 8 ((flat ((s::L).map aL)).drop 0)=some (((s::L).take 8).map aL):=by
    have:=zt (sz:=2) (es:=((s::L).take 8).map aL) (flat (((s::L).drop 8).map aL)) (fun e he=>by obtain ⟨s,_,rfl⟩:=List.mem_map.1 he;exact Ij s);rw[List.length_map,e8,←ea,←List.map_append,List.take_append_drop] at this;exact this
   have f1:=qV (H:=[(4,some (.cells (aa o (.fsl false (ak mat)) (bH 1 1 N.length) (.rsl true 2 0 8 2) (bH 3 2 C.length)))),(0,some (.cells (aa o (.fsl false (ak mat)) (bH 1 1 N.length) (.rsl true 2 0 8 2) (bH 3 2 C.length)))),(4,some (.cells zC)),(1,nb (N.map .str) N.length),(2,some (.cells (flat ((s::L).map aL)))),(3,nb (flat (C.map az)) C.length)]) (id:=1) (w:=1) (es:=N.map .str) (c:=N.map .str) (by rw[List.length_map];rfl) (tT N).symm (fun e he=>by obtain ⟨s,_,rfl⟩:=List.mem_map.1 he;exact Bw s) (fN N);have f2:Frz 0 [(4,some (.cells (aa o (.fsl false (ak mat)) (bH 1 1 N.length) (.rsl true 2 0 8 2) (bH 3 2 C.length)))),(0,some (.cells (aa o (.fsl false (ak mat)) (bH 1 1 N.length) (.rsl true 2 0 8 2) (bH 3 2 C.length)))),(4,some (.cells zC)),(1,nb (N.map .str) N.length),(2,some (.cells (flat ((s::L).map aL)))),(3,nb (flat (C.map az)) C.length)] (.rsl true 2 0 8 2) (fr (((s::L).take 8).map aL)):= .rsl rfl rfl hcut (FrzL.closed _ (jN _));have f3:=qV (H:=[(4,some (.cells (aa o (.fsl false (ak mat)) (bH 1 1 N.length) (.rsl true 2 0 8 2) (bH 3 2 C.length)))),(0,some (.cells (aa o (.fsl false (ak mat)) (bH 1 1 N.length) (.rsl true 2 0 8 2) (bH 3 2 C.length)))),(4,some (.cells zC)),(1,nb (N.map .str) N.length),(2,some (.cells (flat ((s::L).map aL)))),(3,nb (flat (C.map az)) C.length)]) (id:=3) (w:=2) (es:=C.map az) (c:=flat (C.map az)) (by rw[List.length_map];rfl) rfl (fun e he=>by obtain ⟨s,_,rfl⟩:=List.mem_map.1 he;exact Bx s) (iQ C);rw[List.length_map] at f1 f3;exact ⟨_,(tU (M:= .fsl false (ak mat)) (g6 mat) f1 f2 f3).out,BB (L:=((s::L).take 8)),BA (L:=((s::L).take 8))⟩
  ·have e:=ltInt_false.1 e;simp only[bh] at e;have e8:(s::L).take 8=s::L:=List.take_of_length_le (by omega);rw[e8];have f1:=qV (H:=[(4,some (.cells (aa o (.fsl false (ak mat)) (bH 1 1 N.length) (.rsl true 2 0 (s::L).length 2) (bH 3 2 C.length)))),(0,some (.cells (aa o (.fsl false (ak mat)) (bH 1 1 N.length) (.rsl true 2 0 (s::L).length 2) (bH 3 2 C.length)))),(4,some (.cells zC)),(1,nb (N.map .str) N.length),(2,some (.cells (flat ((s::L).map aL)))),(3,nb (flat (C.map az)) C.length)]) (id:=1) (w:=1) (es:=N.map .str) (c:=N.map .str) (by rw[List.length_map];rfl) (tT N).symm (fun e he=>by obtain ⟨s,_,rfl⟩:=List.mem_map.1 he;exact Bw s) (fN N);have f2:Frz 0 [(4,some (.cells (aa o (.fsl false (ak mat)) (bH 1 1 N.length) (.rsl true 2 0 (s::L).length 2) (bH 3 2 C.length)))),(0,some (.cells (aa o (.fsl false (ak mat)) (bH 1 1 N.length) (.rsl true 2 0 (s::L).length 2) (bH 3 2 C.length)))),(4,some (.cells zC)),(1,nb (N.map .str) N.length),(2,some (.cells (flat ((s::L).map aL)))),(3,nb (flat (C.map az)) C.length)] (.rsl true 2 0 (s::L).length 2) (fr ((s::L).map aL)):=by
    have:=Frz.row (n:=0) (own:=true) (id:=2) (len:=(s::L).length) (es:=(s::L).map aL) (sz:=2) (h:=[(4,some (.cells (aa o (.fsl false (ak mat)) (bH 1 1 N.length) (.rsl true 2 0 (s::L).length 2) (bH 3 2 C.length)))),(0,some (.cells (aa o (.fsl false (ak mat)) (bH 1 1 N.length) (.rsl true 2 0 (s::L).length 2) (bH 3 2 C.length)))),(4,some (.cells zC)),(1,nb (N.map .str) N.length),(2,some (.cells (flat ((s::L).map aL)))),(3,nb (flat (C.map az)) C.length)]) rfl rfl rfl (by rw[List.length_map]) (fun e he=>by obtain ⟨s,_,rfl⟩:=List.mem_map.1 he;exact Ij s) (jN _);exact this
   have f3:=qV (H:=[(4,some (.cells (aa o (.fsl false (ak mat)) (bH 1 1 N.length) (.rsl true 2 0 (s::L).length 2) (bH 3 2 C.length)))),(0,some (.cells (aa o (.fsl false (ak mat)) (bH 1 1 N.length) (.rsl true 2 0 (s::L).length 2) (bH 3 2 C.length)))),(4,some (.cells zC)),(1,nb (N.map .str) N.length),(2,some (.cells (flat ((s::L).map aL)))),(3,nb (flat (C.map az)) C.length)]) (id:=3) (w:=2) (es:=C.map az) (c:=flat (C.map az)) (by rw[List.length_map];rfl) rfl (fun e he=>by obtain ⟨s,_,rfl⟩:=List.mem_map.1 he;exact Bx s) (iQ C);rw[List.length_map] at f1 f3;exact ⟨_,(tU (M:= .fsl false (ak mat)) (g6 mat) f1 f2 f3).out,BB (L:=(s::L)),BA (L:=(s::L))⟩
structure Okay (o:Ob):Prop where
 fit:cI o
 n:∀s∈o.names,s∈dG
 l:∀x∈o.links,x.id∈dG
 c:∀x∈o.cust,x.text∈dG
 i:o.id∈dG
 m:o.msg.length≤8
theorem Io:∀s∈dG,s.length≤8:=by decide
theorem BE {s:List UInt8} (h:s.length≤8):eX cv (gG s):=⟨Nat.le_trans h (by decide),by simp[cv],ad⟩
theorem qW (y n:Int):eX cv (dJ y n):=⟨by simp[cv],by simp[cv],ad⟩
theorem tV {b:Bool} {x:It}:(cV b x).length≤1:=by cases b<;>simp[cV]
theorem tW {b:Bool} {x y:It} (h:y∈cV b x):y=x:=by
 cases b with
 |true=>simpa [cV] using h
 |false=>cases h
theorem U2 {s:List UInt8} (h:s.length≤8) (a b c n:Int) (l:List It) (hl:l=[gh a b n,.mk c 7 0 s []]):eX cv (hQ l):=by
 subst hl;simp[hQ,bY,eX,lm,gh,cv];omega
theorem Okay.g {o:Ob} (h:Okay o):∀k,jQ o k:=by
 intro k;have t:=Io;cases k with
 | uid=>exact ⟨by simp[aA],fun x hx=>by
   simp only[aA,List.mem_singleton] at hx;subst hx;exact BE (t _ h.i)⟩
 | nam=>exact ⟨by have:=h.fit.n;simp only[aA,List.length_map];omega,fun x hx=>by
   obtain ⟨s,hs,rfl⟩:=List.mem_map.1 hx;exact BE (t _ (h.n s hs))⟩
 | typ=>exact ⟨by simp[aA],fun x hx=>by
   simp only[aA,List.mem_singleton] at hx;subst hx;exact qW _ _⟩
 |alg=>exact ⟨Nat.le_trans tV (by decide),fun x hx=>by rw[tW hx];exact qW _ _⟩
 |len=>exact ⟨Nat.le_trans tV (by decide),fun x hx=>by rw[tW hx];exact qW _ _⟩
 | mask=>exact ⟨by simp[aA],fun x hx=>by
   simp only[aA,List.mem_singleton] at hx;subst hx;exact qW _ _⟩
 | sta=>exact ⟨by simp[aA],fun x hx=>by
   simp only[aA,List.mem_singleton] at hx;subst hx;exact qW _ _⟩
 |dat k=>exact ⟨Nat.le_trans tV (by decide),fun x hx=>by rw[tW hx];exact qW _ _⟩
 | why=>exact ⟨Nat.le_trans tV (by decide),fun x hx=>by
   rw[tW hx];have hm:=h.m;simp only[ts]
   match o.msg,hm with
   |[],_=>simp[hQ,bY,eX,lm,gh,qv,cv]
   |a::r,hm=>
    simp only[lConQ] at hm;simp[hQ,bY,eX,lm,gh,qv,cv];omega⟩
 | lnk=>exact ⟨by have:=h.fit.l;simp only[aA,List.length_map];omega,fun x hx=>by
   obtain ⟨s,hs,rfl⟩:=List.mem_map.1 hx;exact U2 (t _ (h.l s hs)) _ _ _ _ _ rfl⟩
 | lim=>exact ⟨Nat.le_trans tV (by decide),fun x hx=>by
   rw[tW hx];simp[qw,hQ,bY,eX,lm,gh,cv]⟩
 | cus s=>exact ⟨by
   have:=h.fit.c;simp only[aA,List.length_map];exact Nat.le_trans (List.length_filter_le _ _) (by omega),fun x hx=>by
   obtain ⟨c,hc,rfl⟩:=List.mem_map.1 hx;exact BE (t _ (h.c c (List.mem_filter.1 hc).1))⟩
theorem U3 {o:Ob} (h:BD o):Okay o:=by
 have hc:=h.i.names;refine ⟨⟨by omega,h.i.l1,h.i.c1,Nat.le_trans h.m (by decide)⟩,fun s hs=> ?_,fun s hs=> ?_,fun s hs=> ?_, ?_, ?_⟩
 ·exact (by decide:∀s∈nmL,s∈dG) s (h.i.n1 s hs)
 ·exact (by decide:∀s∈idL,s∈dG) _ (h.i.l3 s hs)
 ·exact (by decide:∀s∈ctL,s∈dG) _ (h.i.c3 s hs).2
 ·exact (by decide:∀s∈idL,s∈dG) _ h.i.id
 ·exact (by decide:∀s∈msL,s.length≤8) _ h.i.msg
theorem wV {α:Type} {l:List α} {i:Nat} {x y:α} (h:y∈b8 l i x):y∈l∨y=x:=by
 simp only[b8,List.mem_append,mConQ] at h;rcases h with h|h|h
 ·exact .inl (List.mem_of_mem_take h)
 ·exact .inr h
 ·exact .inl (List.mem_of_mem_drop h)
theorem BF {α:Type} {l:List α} {i n:Nat} {x:α} (h:i≤l.length) (h1:l.length≤n) (h2:i<n):(b8 l i x).length≤n:=by
 simp only[b8,List.length_append,lConQ,List.length_take,List.length_drop];omega
theorem U4 {v:It} (h:cY v) (i:Nat):gg (oX v i)∈dG:=by
 unfold oX;cases hk:(cC v)[i]? with
 |none=>exact lH h
 | some k=>
  have:∀ (l:List It),tD l→∀ (i:Nat) (k:It),l[i]? =some k→cY k:=by
   intro l
   induction l with
   |nil=>intro _ i k h;simp at h
   |cons a r ih=>
    intro hl i k h;cases i with
    |zero=>simp at h;subst h;exact hl.1
    |succ i=>exact ih hl.2 i k (by simpa using h)
  refine lH (this (cC v) ?_ i k hk);cases v;exact h.2
theorem Okay.date {o:Ob} (h:Okay o) (d:Dt) (k:Nat):Okay (aV o d k):=by
 have e:∀p:Ob,p.names=o.names→p.links=o.links→p.cust=o.cust→p.mat=o.mat→p.id=o.id→p.msg=o.msg→Okay p:=fun p h1 h2 h3 h4 h5 h6=>
  ⟨⟨by rw[h1];exact h.fit.n,by rw[h2];exact h.fit.l,by rw[h3];exact h.fit.c,by rw[h4];exact h.fit.m⟩,by rw[h1];exact h.n,by rw[h2];exact h.l,by rw[h3];exact h.c,by rw[h5];exact h.i,by rw[h6];exact h.m⟩
 unfold aV;split<;>exact e _ rfl rfl rfl rfl rfl rfl
theorem Okay.put {o:Ob} (h:Okay o) {k:Kd} {j:Nat} (hj:m4 o j k) {v:It} (hv:cY v):Okay (b9 o j v k):=by
 cases k with
 | nam=>exact ⟨⟨BF hj.1 h.fit.n hj.2,h.fit.l,h.fit.c,h.fit.m⟩,fun s hs=>by
   rcases wV hs with hs|rfl
   ·exact h.n s hs
   ·exact lH hv,h.l,h.c,h.i,h.m⟩
 |alg=>exact ⟨⟨h.fit.n,h.fit.l,h.fit.c,h.fit.m⟩,h.n,h.l,h.c,h.i,h.m⟩
 |len=>exact ⟨⟨h.fit.n,h.fit.l,h.fit.c,h.fit.m⟩,h.n,h.l,h.c,h.i,h.m⟩
 |mask=>exact ⟨⟨h.fit.n,h.fit.l,h.fit.c,h.fit.m⟩,h.n,h.l,h.c,h.i,h.m⟩
 |dat k=>exact h.date _ k
 | lnk=>exact ⟨⟨h.fit.n,BF hj.1 h.fit.l hj.2,h.fit.c,h.fit.m⟩,h.n,fun s hs=>by
   rcases wV hs with hs|rfl
   ·exact h.l s hs
   ·exact U4 hv 1,h.c,h.i,h.m⟩
 |lim=>exact ⟨⟨h.fit.n,h.fit.l,h.fit.c,h.fit.m⟩,h.n,h.l,h.c,h.i,h.m⟩
 | cus s=>
  have hp:=G6 (o:=o) (s:=s) (j:=j) (by rcases hj with hj|hj<;>omega);have h6:iw o s j<6:=by
   have:=h.fit.c;rcases hj with hj|hj
   ·have:=hp.2.2 hj;omega
   ·have:=hp.2.1;omega
  exact ⟨⟨h.fit.n,h.fit.l,BF hp.2.1 h.fit.c h6,h.fit.m⟩,h.n,h.l,fun c hc=>by
   rcases wV hc with hc|rfl
   ·exact h.c c hc
   ·exact lH hv,h.i,h.m⟩
 |_=>exact h
def pa (p:Ob × Int):Prop:=p.2=0→Okay p.1∧gk p.1=true
theorem fS {o:Ob} {e:Int} (h:e≠0):pa (o,e):=fun h0=>absurd h0 h
theorem BG {o:Ob} (h:Okay o) {k:Kd} {j:Nat} (hj:m4 o j k) {v:It} (hv:cY v):pa (eg o k j v):=by
 unfold eg;split
 ·rename_i hs;exact fun _=>⟨h.put hj hv,hs⟩
 ·exact fS (by decide)
theorem U5 {o:Ob} (h:Okay o) {k:Kd} {a:At} (ha:cY a.v):pa (fR o k a):=by
 unfold fR;split
 ·exact fS (by decide)
 split
 ·exact fS (by decide)
 split
 ·exact fS (by decide)
 split
 ·exact fS (by decide)
 ·rename_i hr;split
  ·exact fS (by decide)
  ·cases hm:ci k with
   |true=>exact BG h (He hm hr) ha
   |false=>exact BG h (Hf hm 0) ha
theorem Ip {p:Ob × Int} (h:pa p) (now:Int):pa (gn p now):=by
 unfold gn;split
 ·rename_i h0;exact fS (beqInt_false.1 h0)
 ·rename_i h0;obtain ⟨h1,h2⟩:=h (beqInt_iff.1 h0);exact fun _=>⟨h1.date ⟨true,now⟩ 9,h2⟩
theorem U6 {c:Bool} {o:Ob} (h:Okay o) {a:At} (ha:cY a.v) (now:Int):pa (hZ c o a now):=by
 unfold hZ;split
 ·exact fS (by decide)
 split
 ·exact fS (by decide)
 split
 ·exact fS (by decide)
 split
 ·exact fS (by decide)
 ·exact Ip (U5 h ha) now
theorem U7 {c:Bool} {o:Ob} (h:Okay o) {a:At} (ha:cY a.v) (now:Int):pa (ia c o a now):=by
 unfold ia;split
 ·exact fS (by decide)
 split
 ·exact fS (by decide)
 split
 ·exact fS (by decide)
 split
 ·exact fS (by decide)
 rename_i hi;split
 ·exact fS (by decide)
 split
 ·exact fS (by decide)
 split
 ·exact fS (by decide)
 ·refine Ip (BG h (Hn h.fit ?_) ha) now;simp only[Bool.or_eq_false_iff,Bool.not_eq_false'] at hi;have h1:=ltInt_false.1 hi.1;have h2:=ltInt_iff.1 hi.2;simp only[bh] at h2;omega
theorem U8 (s:List UInt8) (r:Rw):cY (mP s r):=by
 have hid:aO idL [] r.b∈dG:=(by decide:∀s∈idL,s∈dG) _ (iq idL [] r.b (by simp[idL]));have htx:aO txL [] r.a∈dG:=(by decide:∀s∈txL,s∈dG) _ (iq txL [] r.a (by simp[txL]));have h0:([]:List UInt8)∈dG:=by decide
 unfold mP
 repeat' split
 all_goals
  simp only[bY,mO,cY,tD];simp only[hid,htx,h0,and_self]
def aW (s:List UInt8) (l:List Cu):Nat:=(l.filter fun c=>aI c.name s).length
def qX:List Cu→List Cu→List At
 |_,[]=>[]
 |pre,c::r=>⟨c.name,.ofNat (aW c.name pre),gG c.text⟩::qX (pre++[c]) r
def lU (o:Ob):List Kd→List At
 |[]=>[]
 |k::r=>bo (aC k) (aA o k) 0++lU o r
def gq (o:Ob):List At:=lU o kinds++qX [] o.cust
def eR (s:List UInt8) (l:List At):List At:=l.filter fun a=>aI a.name s
theorem BH (s:List UInt8) (l r:List At):eR s (l++r)=eR s l++eR s r:=List.filter_append ..
theorem wW {a b:List UInt8} (h:a≠b):aI a b=false:=by
 cases hb:aI a b with
 |false=>rfl
 |true=>exact absurd (beqBytes_iff.1 hb) h
theorem Iq (s:List UInt8):∀ (l:List It) (i:Nat),eR s (bo s l i)=bo s l i
 |[],_=>rfl
 |v::r,i=>by
  have ih:=Iq s r (i+1);unfold eR at ih⊢;rw[bo,List.filter_cons,ih,if_pos (beqBytes_iff.2 rfl)]
theorem BI {s n:List UInt8} (h:n≠s):∀ (l:List It) (i:Nat),eR s (bo n l i)=[]
 |[],_=>rfl
 |v::r,i=>by
  have ih:=BI h r (i+1);unfold eR at ih⊢;rw[bo,List.filter_cons,ih,wW h];rfl
theorem BJ {s:List UInt8}:∀ {l:List Kd},(∀k∈l,aC k≠s)→g8 s l=none
 |[],_=>rfl
 |a::r,h=>by rw[g8,wW (h a (by simp)),BJ fun k hk=>h k (by simp[hk])]
theorem Ir (o:Ob) {s:List UInt8}:∀ {l:List Kd},(∀k∈l,aC k≠s)→eR s (lU o l)=[]
 |[],_=>rfl
 |a::r,h=>by rw[lU,BH,BI (h a (by simp)),Ir o fun k hk=>h k (by simp[hk])];rfl
theorem Is (o:Ob) (s:List UInt8):∀ {l:List Kd},(l.map aC).Nodup→eR s (lU o l)=match g8 s l with
  |none=>[]
  |some k=>bo s (aA o k) 0
 |[],_=>rfl
 | a::r,h=>by
  rw[List.map_cons,List.nodup_cons] at h;rw[lU,BH,g8];cases hb:aI (aC a) s with
  |true=>
   have e:=beqBytes_iff.1 hb;subst e;rw[Iq,Ir o fun k hk e=>h.1 (List.mem_map.2 ⟨k,hk,e⟩),List.append_nil]
  |false=>
   have e:aC a≠s:=fun e=>by rw[beqBytes_iff.2 e] at hb;cases hb
   rw[BI e,Is o s h.2,List.nil_append]
theorem qY (s:List UInt8) (pre:List Cu) (c:Cu):aW s (pre++[c])=aW s pre+(match aI c.name s with|true=>1|false=>0):=by
 unfold aW;rw[List.filter_append,List.length_append,List.filter_cons];cases aI c.name s<;>rfl
theorem Iu (s:List UInt8):∀ (l pre:List Cu),eR s (qX pre l)=bo s ((l.filter fun c=>aI c.name s).map fun c=>gG c.text) (aW s pre)
 |[],_=>rfl
 | c::r,pre=>by
  have ih:=Iu s r (pre++[c]);rw[qY] at ih;unfold eR at ih⊢;rw[qX,List.filter_cons,ih,List.filter_cons];cases hb:aI c.name s with
  |true=>
   have e:=beqBytes_iff.1 hb;subst e;rfl
  |false=>rfl
structure qZ (c:Bool) (s:List UInt8) (o:Ob):Prop where
 t:c=true→∀k∈kinds,aC k≠s
 f:c=false→∀x∈o.cust,x.name≠s
theorem U9:(kinds.map aC).Nodup:=by decide
theorem wX {c:Bool} {s:List UInt8} {o:Ob} (h:qZ c s o):eR s (gq o)=jS c o s:=by
 rw[gq,BH,Is o s U9,Iu,jS];cases c with
 |true=>
  rw[BJ (h.t rfl)];rfl
 |false=>
  have hf:(o.cust.filter fun c=>aI c.name s)=[]:=List.filter_eq_nil_iff.2 fun x hx=>by rw[wW (h.f rfl x hx)];simp
  rw[hf];rw[show ([]:List Cu).map (fun c=>gG c.text)=[] from rfl,show ∀n,bo s [] n=[] from fun _=>rfl,List.append_nil]
  rfl
theorem Iv {s:List UInt8} {v:It}:∀ {l:List It} {i k:Nat},l[k]? =some v→(bo s l i)[k]? =some ⟨s,.ofNat (i+k),v⟩
 |[],_,_,h=>by simp at h
 |a::r,i,0,h=>by
  simp at h;subst h;rfl
 |a::r,i,k+1,h=>by
  have ih:=Iv (s:=s) (i:=i+1) (k:=k) (l:=r) (by simpa using h);rw[show i+1+k=i+(k+1) by omega] at ih;simpa [bo] using ih
theorem Iw {o:Ob} (hg:∀k,jQ o k):∀l:List Kd,(lU o l).length≤1000*l.length
 |[]=>Nat.le_refl _
 |a::t=>by
  have:=Iw hg t;have h:=(hg a).n;rw[lU,List.length_append,gK,lConQ];omega
def iV (c:Cu) (n:Nat):AV:= .agg [.str c.name,I (.ofNat n),I 4325387,I 7,I 0,.fsl false (ak c.text),.nilsl]
def dS:List Cu→List Cu→List AV
 |_,[]=>[]
 |pre,c::r=>iV c (aW c.name pre)::dS (pre++[c]) r
theorem Ix (c:Cu):∀ (l q:List Cu),dS q (l++[c])=dS q l++[iV c (aW c.name (q++l))]
 |[],q=>by rw[List.append_nil];rfl
 |a::r,q=>by
  have ih:=Ix c r (q++[a]);rw[List.append_assoc,List.singleton_append] at ih;rw[List.cons_append,dS,dS,ih,List.cons_append]
theorem BK:∀ (l q:List Cu),(dS q l).length=l.length
 |[],_=>rfl
 |a::r,q=>by rw[dS,lConQ,lConQ,BK r]
theorem BM:∀ (l q:List Cu),ae (flat (dS q l))=true
 |[],_=>rfl
 |a::r,q=>by
  rw[dS,flat,ez,BM r];simp[iV,AV.cells,ag,ae]
theorem Iy:∀ (l q:List Cu),(flat (dS q l)).length=l.length*7
 |[],_=>rfl
 |a::r,q=>by
  rw[dS,flat,List.length_append,Iy r,lConQ];simp[iV,AV.cells];omega
theorem BO:∀ (l q:List Cu),WkE (dS q l) ((qX q l).map aK)
 |[],_=> .nil
 |a::r,q=>by
  rw[dS,qX,List.map_cons];refine WkE.consA ?_ (BO r _);simp only[gG,bY]
  (repeat (first|exact Wk.refl _|exact WkL.refl _|exact Wk.nil|exact Wk.row|exact WkE.refl _|exact WkL.nil|exact WkE.nil|apply Wk.agg|apply Wk.tuple|apply WkL.cons|apply Wk.rows|apply WkE.consA))
inductive tX (pre:List Cu):Blk→Prop
 |m (hp:aW [120,45,97] pre=0) (hq:aW [120,45,98] pre=0):tX pre (.mapb 0 [] [])
 |ma (p:Nat) (hp:aW [120,45,97] pre=p) (hq:aW [120,45,98] pre=0):tX pre (.mapb 1 [0] [(.str [120,45,97],I (.ofNat p))])
 |mb (p:Nat) (hp:aW [120,45,98] pre=p) (hq:aW [120,45,97] pre=0):tX pre (.mapb 1 [0] [(.str [120,45,98],I (.ofNat p))])
 |mab (p q:Nat) (hp:aW [120,45,97] pre=p) (hq:aW [120,45,98] pre=q):tX pre (.mapb 2 [0,1] [(.str [120,45,97],I (.ofNat p)),(.str [120,45,98],I (.ofNat q))])
 |mba (p q:Nat) (hp:aW [120,45,98] pre=p) (hq:aW [120,45,97] pre=q):tX pre (.mapb 2 [0,1] [(.str [120,45,98],I (.ofNat p)),(.str [120,45,97],I (.ofNat q))])
theorem BP {C:List Cu} {i:Nat} {c:Cu} (h:C[i]? =some c):aF prog 29 (.fsl false (C.map az)) (.int .i64 (.ofNat i))=some (.fptr [.str c.name,.str c.text] 0):=
 gC (v:=az c) (e:=101) (sz:=2) (by kernel_rfl) (by kernel_rfl) (by rw[List.getElem?_map,h];rfl) rfl
theorem Va {es:List AV} {c:Cu} {n:Nat} (h:ae es=true):ae (es++flat [iV c n])=true:=by
 rw[ez,h];simp[iV,flat,AV.cells,ag,ae]
theorem gL {i n:Nat} (h:i<n):¬ay (Int.ofNat i) (Int.ofNat n)=false:=fun e=>by
 have e:=ltInt_false.1 e;simp only[bh] at e;omega
section
variable {o:Ob} {C:List Cu} {i k:Nat} {t:List UInt8} {es:List AV} {Q:AExit→St→Prop}
end
theorem tY (s:List UInt8) (l:List Cu):aW s l≤l.length:=List.length_filter_le _ _
def lV (nm:List UInt8) (i:Int) (s:List UInt8):AV:= .agg [.str nm,I i,I 4325387,I 7,I 0,.fsl false (ak s),.nilsl]
def cW (nm:List UInt8) (ty n:Int):AV:= .agg [.str nm,I 0,I 4325387,I ty,I n,.nilsl,.nilsl]
def fF (nm:List UInt8) (i:Int) (kk:AV):AV:= .agg [.str nm,I i,I 4325387,I 1,I 0,.nilsl,kk]
def pb (l:Lk):AV:= .fsl true [.agg [I 4325451,I 5,I l.ty,.nilsl,.nilsl],.agg [I 4325452,I 7,I 0,.fsl false (ak l.id),.nilsl]]
def gM (o:Ob):AV:=match aI o.msg [] with
 |true=> .fsl true [.agg [I 4325506,I 5,I o.why,.nilsl,.nilsl]]
 |false=> .fsl false [.agg [I 4325506,I 5,I o.why,.nilsl,.nilsl],.agg [I 4325504,I 7,I 0,.fsl false (ak o.msg),.nilsl]]
def q7 (o:Ob):AV:= .fsl true [.agg [I 4325527,I 3,I o.lt,.nilsl,.nilsl],.agg [I 4325526,I 3,I o.lc,.nilsl,.nilsl],.agg [I 4325528,I 5,I o.lu,.nilsl,.nilsl]]
def gu (nm:List UInt8):List (List UInt8)→Nat→List AV
 |[],_=>[]
 |s::r,i=>lV nm (.ofNat i) s::gu nm r (i+1)
def gv:List Lk→Nat→List AV
 |[],_=>[]
 |l::r,i=>fF (aC .lnk) (.ofNat i) (pb l)::gv r (i+1)
def fG (b:Bool) (x:AV):List AV:=match b with
 |true=>[x]
 |false=>[]
def aS (o:Ob):Kd→List AV
 | .uid=>[lV (aC .uid) 0 o.id]
 | .nam=>gu (aC .nam) o.names 0
 | .typ=>[cW (aC .typ) 5 o.ty]
 | .alg=>fG (!ao o.alg 0) (cW (aC .alg) 5 o.alg)
 | .len=>fG (!ao o.len 0) (cW (aC .len) 2 o.len)
 | .mask=>[cW (aC .mask) 2 o.mask]
 | .sta=>[cW (aC .sta) 5 o.st]
 | .dat k=>fG (dh o k).has (cW (aC (.dat k)) 9 (dh o k).t)
 | .why=>fG (!ao o.why 0) (fF (aC .why) 0 (gM o))
 | .lnk=>gv o.links 0
 | .lim=>fG o.lh (fF (aC .lim) 0 (q7 o))
 | .cus _=>[]
theorem Iz (nm x:List UInt8):∀ (l:List (List UInt8)) (i:Nat),gu nm (l++[x]) i=gu nm l i++[lV nm (.ofNat (i+l.length)) x]
 |[],_=>rfl
 |a::r,i=>by rw[List.cons_append,gu,gu,Iz nm x r (i+1),List.cons_append,lConQ,show i+1+r.length=i+(r.length+1) by omega]
theorem IA (x:Lk):∀ (l:List Lk) (i:Nat),gv (l++[x]) i=gv l i++[fF (aC .lnk) (.ofNat (i+l.length)) (pb x)]
 |[],_=>rfl
 |a::r,i=>by rw[List.cons_append,gv,gv,IA x r (i+1),List.cons_append,lConQ,show i+1+r.length=i+(r.length+1) by omega]
theorem BQ (nm:List UInt8):∀ (l:List (List UInt8)) (i:Nat),(gu nm l i).length=l.length
 |[],_=>rfl
 |a::r,i=>by rw[gu,lConQ,lConQ,BQ nm r]
theorem BR:∀ (l:List Lk) (i:Nat),(gv l i).length=l.length
 |[],_=>rfl
 |a::r,i=>by rw[gv,lConQ,lConQ,BR r]
structure fH (e:AV):Prop where
 c:ag e=true
 f:ae e.cells=true
 l:e.cells.length=7
 g:eH 7 e
theorem BS (nm:List UInt8) (i:Int) (s:List UInt8):fH (lV nm i s):=⟨by simp[lV,ag,ae],by simp[lV,AV.cells,ag,ae],rfl,rflTwoQ⟩
theorem jq (nm:List UInt8) (ty n:Int):fH (cW nm ty n):=⟨rfl,rfl,rfl,rflTwoQ⟩
theorem BT (nm:List UInt8) (i:Int) {f:Bool} {l:List AV} (h:ae l=true):fH (fF nm i (.fsl f l)):=⟨by simp[fF,ag,ae,h],by simp[fF,AV.cells,ag,ae,h],rfl,rflTwoQ⟩
theorem IB (i:Int) (l:Lk):fH (fF (aC .lnk) i (pb l)):=BT _ _ (by simp[ag,ae])
theorem IC (o:Ob):fH (fF (aC .why) 0 (gM o)):=by
 unfold gM;split<;>exact BT _ _ (by simp[ag,ae])
theorem ID (o:Ob):fH (fF (aC .lim) 0 (q7 o)):=BT _ _ rfl
theorem tZ (nm:List UInt8):∀ (l:List (List UInt8)) (i:Nat),∀e∈gu nm l i,fH e
 |[],_,_,h=>by cases h
 |a::r,i,e,h=>by
  rcases List.mem_cons.1 h with h|h
  ·subst h;exact BS _ _ _
  ·exact tZ nm r _ e h
theorem t6:∀ (l:List Lk) (i:Nat),∀e∈gv l i,fH e
 |[],_,_,h=>by cases h
 |a::r,i,e,h=>by
  rcases List.mem_cons.1 h with h|h
  ·subst h;exact IB _ _
  ·exact t6 r _ e h
theorem t7 {b:Bool} {x:AV} (h:fH x):∀e∈fG b x,fH e:=fun e he=>by
 cases b with
 |true=>rw[List.mem_singleton.1 he];exact h
 |false=>cases he
theorem gw (o:Ob) (k:Kd):∀e∈aS o k,fH e:=by
 cases k with
 |uid=>exact fun e he=>by rw[List.mem_singleton.1 he];exact BS _ _ _
 |nam=>exact tZ _ _ _
 |typ=>exact fun e he=>by rw[List.mem_singleton.1 he];exact jq _ _ _
 |alg=>exact t7 (jq _ _ _)
 |len=>exact t7 (jq _ _ _)
 |mask=>exact fun e he=>by rw[List.mem_singleton.1 he];exact jq _ _ _
 |sta=>exact fun e he=>by rw[List.mem_singleton.1 he];exact jq _ _ _
 |dat k=>exact t7 (jq _ _ _)
 |why=>exact t7 (IC o)
 |lnk=>exact t6 _ _
 |lim=>exact t7 (ID o)
 |cus s=>exact fun e he=>by cases he
theorem IE:∀ (l q:List Cu),∀e∈dS q l,fH e
 |[],_,_,h=>by cases h
 |a::r,q,e,h=>by
  rcases List.mem_cons.1 h with h|h
  ·subst h;exact ⟨by simp[iV,ag,ae],by simp[iV,AV.cells,ag,ae],rfl,rflTwoQ⟩
  ·exact IE r _ e h
theorem BU:∀ {l:List AV},(∀e∈l,fH e)→ae l=true
 |[],_=>rfl
 |a::r,h=>by rw[ae,(h a (by simp)).c,BU fun e he=>h e (by simp[he])];rfl
theorem ib:∀ {l:List AV},(∀e∈l,fH e)→ae (flat l)=true
 |[],_=>rfl
 |a::r,h=>by rw[flat,ez,(h a (by simp)).f,ib fun e he=>h e (by simp[he])];rfl
theorem jX:∀ {l:List AV},(∀e∈l,fH e)→(flat l).length=l.length*7
 |[],_=>rfl
 |a::r,h=>by
  rw[flat,List.length_append,(h a (by simp)).l,jX fun e he=>h e (by simp[he]),lConQ];omega
theorem IF (nm:List UInt8):∀ (l:List (List UInt8)) (i:Nat),WkE (gu nm l i) ((bo nm (l.map gG) i).map aK)
 |[],_=> .nil
 |a::r,i=>by
  rw[gu,List.map_cons,bo,List.map_cons];refine WkE.consA ?_ (IF nm r _);simp only[gG,bY,ly,kl,ap]
  (repeat (first|exact Wk.refl _|exact WkL.refl _|exact Wk.nil|exact Wk.row|exact WkE.refl _|exact WkL.nil|exact WkE.nil|apply Wk.agg|apply Wk.tuple|apply WkL.cons|apply Wk.rows|apply WkE.consA))
theorem IG:∀ (l:List Lk) (i:Nat),WkE (gv l i) ((bo (aC .lnk) (l.map qu) i).map aK)
 |[],_=> .nil
 |a::r,i=>by
  rw[gv,List.map_cons,bo,List.map_cons];refine WkE.consA ?_ (IG r _);simp only[qu,hQ,bY,gh,pb,ly,kl,ap,aX,ak]
  (repeat (first|exact Wk.refl _|exact WkL.refl _|exact Wk.nil|exact Wk.row|exact WkE.refl _|exact WkL.nil|exact WkE.nil|apply Wk.agg|apply Wk.tuple|apply WkL.cons|apply Wk.rows|apply WkE.consA))
theorem t8 {b:Bool} {x:AV} {nm:List UInt8} {v:It} (h:WkE [x] [aK ⟨nm,0,v⟩]):WkE (fG b x) ((bo nm (cV b v) 0).map aK):=by
 cases b with
 |true=>exact h
 |false=>exact .nil
theorem q9 (nm:List UInt8) (ty n:Int):WkE [cW nm ty n] [aK ⟨nm,0,dJ ty n⟩]:=by
 refine WkE.consA ?_ .nil;simp only[dJ,bY,ly,kl,ap,ak]
 (repeat (first|exact Wk.refl _|exact WkL.refl _|exact Wk.nil|exact Wk.row|exact WkE.refl _|exact WkL.nil|exact WkE.nil|apply Wk.agg|apply Wk.tuple|apply WkL.cons|apply Wk.rows|apply WkE.consA))
theorem Vb (o:Ob) (k:Kd) (hk:lJ k=true) (hc:∀s,k≠ .cus s):WkE (aS o k) ((bo (aC k) (aA o k) 0).map aK):=by
 cases k with
 |uid=>
  refine WkE.consA ?_ .nil;simp only[gG,bY,ly,kl,ap]
  (repeat (first|exact Wk.refl _|exact WkL.refl _|exact Wk.nil|exact Wk.row|exact WkE.refl _|exact WkL.nil|exact WkE.nil|apply Wk.agg|apply Wk.tuple|apply WkL.cons|apply Wk.rows|apply WkE.consA))
 |nam=>exact IF _ _ _
 |typ=>exact q9 _ _ _
 |alg=>exact t8 (q9 _ _ _)
 |len=>exact t8 (q9 _ _ _)
 |mask=>exact q9 _ _ _
 |sta=>exact q9 _ _ _
 |dat k=>exact t8 (q9 _ _ _)
 | why=>
  refine t8 (WkE.consA ?_ .nil);have e:qv o.msg=match aI o.msg [] with|true=>[]|false=>[.mk 4325504 7 0 o.msg []]:=by
   cases o.msg<;>rfl
  simp only[ts,hQ,bY,gh,gM,ly,kl,e];split<;>(simp only[ap,aX,ak];(repeat (first|exact Wk.refl _|exact WkL.refl _|exact Wk.nil|exact Wk.row|exact WkE.refl _|exact WkL.nil|exact WkE.nil|apply Wk.agg|apply Wk.tuple|apply WkL.cons|apply Wk.rows|apply WkE.consA)))
 |lnk=>exact IG _ _
 |lim=>
  refine t8 (WkE.consA ?_ .nil);simp only[qw,hQ,bY,gh,q7,ly,kl,ap,aX,ak]
  (repeat (first|exact Wk.refl _|exact WkL.refl _|exact Wk.nil|exact Wk.row|exact WkE.refl _|exact WkL.nil|exact WkE.nil|apply Wk.agg|apply Wk.tuple|apply WkL.cons|apply Wk.rows|apply WkE.consA))
 |cus s=>exact absurd rfl (hc s)
set_option maxRecDepth 20000
theorem dA {p:Nat} (h:p≤1000000):aj .i64 (Int.ofNat p+1)=Int.ofNat (p+1):=eI (by simp;omega) (by simp;omega)
theorem nr {i:Nat}:ay (Int.ofNat i) (Int.ofNat i)=true→False:=fun e=>by
 have e:=ltInt_iff.1 e;omega
theorem fT {e:AV} {k:Nat} (h:fH e) (h1:bq e.cells=true) (hk:k≤100000):(a7 7 [e]&&(Nat.ble ((k+ab [e])*96) 140737488355328&&(bq (flat [e])&&true)))=true:=by
 have h2:ab [e]=1:=rfl;have h3:a7 7 [e]=true:=by
  have h4:ab e.cells=7:=by rw[aM,h.l]
  simp[a7,h4]
 have h5:flat [e]=e.cells:=by simp[flat]
 rw[h2,h3,h5,h1];simp;omega
theorem fI {B:List AV} {k:Nat} (h:B.length=k*7):Nat.beq (ab B) (k*7)=true:=by rw[beq_iff,aM,h]
theorem Vc {l:List (List UInt8)} {i:Nat} {s:List UInt8} (h:l[i]? =some s):aF prog 27 (.fsl false (l.map .str)) (.int .i64 (.ofNat i))=some (.fptr [.str s] 0):=
 gC (v:= .str s) (e:=9) (sz:=1) (by kernel_rfl) (by kernel_rfl) (by rw[List.getElem?_map,h];rfl) rfl
theorem Vd {l:List Lk} {i:Nat} {s:Lk} (h:l[i]? =some s):aF prog 28 (.fsl false (l.map aL)) (.int .i64 (.ofNat i))=some (.fptr [I s.ty,.str s.id] 0):=
 gC (v:=aL s) (e:=99) (sz:=2) (by kernel_rfl) (by kernel_rfl) (by rw[List.getElem?_map,h];rfl) rfl
theorem IH {i:Nat} {k:Kd} (h:kinds[i]? =some k):aF prog 140 (.fsl true (kinds.map aN)) (.int .i64 (.ofNat i))=some (.fptr (bp k) 0):=
 gC (v:=aN k) (e:=93) (sz:=7) (by kernel_rfl) (by kernel_rfl) (by rw[List.getElem?_map,h];rfl) rfl
theorem wY:ae (kinds.map aN)=true:=by kernel_rfl
section
variable {o:Ob} {Q:AExit→St→Prop}
theorem Ve {B:List AV} {k0:Nat} (hB:B.length=k0*7) (hBc:ae B=true) (hk:k0≤1000) (hn:o.names.length≤1000)
  (hq:Q (.exit 0) (bt [(4,I (.ofNat o.names.length))] (k0+o.names.length) (ax o) (B++flat (gu (aC .nam) o.names 0))).st):
  ∀m i:Nat,i+m=o.names.length→ALp prog opts0.glob 0 (aJ prog 45 5) (bt [(4,I (.ofNat i))] (k0+i) (ax o) (B++flat (gu (aC .nam) (o.names.take i) 0))).st Q:=by
 have hO:=bX o;have hlen:ab (o.names.map AV.str)=o.names.length:=by rw[aM,List.length_map]
 intro m
 induction m with
 |zero=>
  intro i hi;rw[Nat.add_zero] at hi;subst hi;rw[List.take_of_length_le (Nat.le_refl _)];have hc:ae (B++flat (gu (aC .nam) o.names 0))=true:=by rw[ez,hBc,ib (tZ _ _ _)];rfl
  refine ALp.round (A:=Bg []) (V2:=bt [(4,I 0)] 0 (ax o) []) (F:=bt [(4,I (.ofNat o.names.length))] (k0+o.names.length) (ax o) (B++flat (gu (aC .nam) o.names 0))) (lk:=[(0,0),(1,1),(2,34)]) (lk':=[(0,0),(1,1),(2,2)]) base0 ar (LsOk.no rfl) .refl ?_;unfold ax bR at hO hq⊢;rw[HT,hlen];exact ai (fun e=>(nr e).elim) fun _=>⟨⟨⟨rflTwoQ,ad⟩,⟨rflTwoQ,rflTwoQ,ad⟩,⟨rfl,hO⟩,⟨⟨rfl,rfl,rfl,rfl,rfl⟩,ad⟩,⟨rfl,hc⟩,ad⟩,hq⟩
 |succ m ih=>
  intro i hi;have hlt:i<o.names.length:=by omega
  have g:=List.getElem?_eq_getElem hlt;have ih:=ih (i+1) (by omega);have hti:(o.names.take i).length=i:=by rw[List.length_take];omega
  rw[iR g,Iz,ea,←List.append_assoc,hti,Nat.zero_add,←Nat.add_assoc] at ih;have hpc:=ib (tZ (aC .nam) (o.names.take i) 0);have hpl:=jX (tZ (aC .nam) (o.names.take i) 0);rw[BQ,hti] at hpl;revert g ih hpc hpl;generalize o.names[i]=x;generalize flat (gu (aC .nam) (o.names.take i) 0)=P;intro g ih hpc hpl;have hr:=BS (aC .nam) (.ofNat i) x;have hc:ae (B++P)=true:=by rw[ez,hBc,hpc];rfl
  have hc2:ae (B++P++flat [lV (aC .nam) (.ofNat i) x])=true:=by rw[ez,hc,ib (l:=[lV (aC .nam) (.ofNat i) x]) (fun e he=>by rw[List.mem_singleton.1 he];exact hr)];rfl
  have hl:(B++P).length=(k0+i)*7:=by rw[List.length_append,hB,hpl];omega
  refine ALp.round (A:=Bg x) (V2:=bt [(4,I (.ofNat (i+1)))] (k0+i+1) (ax o) (B++P++flat [lV (aC .nam) (.ofNat i) x])) (F:=bt [(4,I (.ofNat i))] (k0+i) (ax o) (B++P)) (lk:=[(0,0),(1,1),(2,34)]) (lk':=[(0,0),(1,1),(2,2)]) base0 ar (LsOk.no rfl) .refl ?_;have g:=Vc g;unfold ax bR at hO ih⊢;rw[HT,dA (by omega)];exact ai (fun _=>⟨g,aD (fT hr rfl (by omega)) (aD (fI hl) ⟨⟨⟨rflTwoQ,ad⟩,⟨rflTwoQ,rflTwoQ,ad⟩,⟨rfl,hO⟩,⟨⟨rfl,rfl,rfl,rfl,rfl⟩,ad⟩,⟨rfl,hc2⟩,ad⟩,ih⟩)⟩) fun e=>absurd (hlen▸e) (gL hlt)
theorem Vf {B:List AV} {k0:Nat} (hB:B.length=k0*7) (hBc:ae B=true) (hk:k0≤1000) (hn:o.links.length≤1000)
  (hq:Q (.exit 4) (bt [(8,I (.ofNat o.links.length))] (k0+o.links.length) (ax o) (B++flat (gv o.links 0))).st):
  ∀m i:Nat,i+m=o.links.length→ALp prog opts0.glob 0 (aJ prog 45 27) (bt [(8,I (.ofNat i))] (k0+i) (ax o) (B++flat (gv (o.links.take i) 0))).st Q:=by
 have hO:=bX o;have hlen:ab (o.links.map aL)=o.links.length:=by rw[aM,List.length_map]
 intro m
 induction m with
 |zero=>
  intro i hi;rw[Nat.add_zero] at hi;subst hi;rw[List.take_of_length_le (Nat.le_refl _)];have hc:ae (B++flat (gv o.links 0))=true:=by rw[ez,hBc,ib (t6 _ _)];rfl
  refine ALp.round (A:=Bj 0 []) (V2:=bt [(8,I 0)] 0 (ax o) []) (F:=bt [(8,I (.ofNat o.links.length))] (k0+o.links.length) (ax o) (B++flat (gv o.links 0))) (lk:=[(0,0),(1,1),(2,50)]) (lk':=[(0,0),(1,1),(2,2)]) base0 ar (LsOk.no rfl) .refl ?_;unfold ax bS at hO hq⊢;rw[HV,hlen];exact ai (fun e=>(nr e).elim) fun _=>⟨⟨⟨rflTwoQ,ad⟩,⟨rflTwoQ,rflTwoQ,ad⟩,⟨rfl,hO⟩,⟨⟨rfl,rfl,rfl,rfl,rfl⟩,ad⟩,⟨rfl,hc⟩,ad⟩,hq⟩
 |succ m ih=>
  intro i hi;have hlt:i<o.links.length:=by omega
  have g:=List.getElem?_eq_getElem hlt;have ih:=ih (i+1) (by omega);have hti:(o.links.take i).length=i:=by rw[List.length_take];omega
  rw[iR g,IA,ea,←List.append_assoc,hti,Nat.zero_add,←Nat.add_assoc] at ih;have hpc:=ib (t6 (o.links.take i) 0);have hpl:=jX (t6 (o.links.take i) 0);rw[BR,hti] at hpl;revert g ih hpc hpl;generalize o.links[i]=x;generalize flat (gv (o.links.take i) 0)=P;intro g ih hpc hpl;have hr:=IB (.ofNat i) x;have hc:ae (B++P)=true:=by rw[ez,hBc,hpc];rfl
  have hc2:ae (B++P++flat [fF (aC .lnk) (.ofNat i) (pb x)])=true:=by rw[ez,hc,ib (l:=[fF (aC .lnk) (.ofNat i) (pb x)]) (fun e he=>by rw[List.mem_singleton.1 he];exact hr)];rfl
  have hl:(B++P).length=(k0+i)*7:=by rw[List.length_append,hB,hpl];omega
  refine ALp.round (A:=Bj x.ty x.id) (V2:=bt [(8,I (.ofNat (i+1)))] (k0+i+1) (ax o) (B++P++flat [fF (aC .lnk) (.ofNat i) (pb x)])) (F:=bt [(8,I (.ofNat i))] (k0+i) (ax o) (B++P)) (lk:=[(0,0),(1,1),(2,50)]) (lk':=[(0,0),(1,1),(2,2)]) base0 ar (LsOk.no rfl) .refl ?_;have g:=Vd g;unfold ax bS at hO ih⊢;rw[HV,dA (by omega)];exact ai (fun _=>⟨g,g,aD (fT hr rfl (by omega)) (aD (fI hl) ⟨⟨⟨rflTwoQ,ad⟩,⟨rflTwoQ,rflTwoQ,ad⟩,⟨rfl,hO⟩,⟨⟨rfl,rfl,rfl,rfl,rfl⟩,ad⟩,⟨rfl,hc2⟩,ad⟩,ih⟩)⟩) fun e=>absurd (hlen▸e) (gL hlt)
theorem wZ:ab (kinds.map aN)=20:=rfl
theorem kx {i k:Nat} {kd:Kd} {es:List AV} (g:kinds[i]? =some kd) (hd:Bf kd= -1) (hc:ae es=true)
  (hn:ALp prog opts0.glob 0 (aJ prog 45 17) (bt [(5,.fsl true (kinds.map aN)),(6,I (.ofNat (i+1)))] k (ax o) es).st Q):
  ALp prog opts0.glob 0 (aJ prog 45 17) (bt [(5,.fsl true (kinds.map aN)),(6,I (.ofNat i))] k (ax o) es).st Q:=by
 have hO:=bX o;have hT:=wY;have hlt:i<20:=(List.getElem?_eq_some_iff.1 g).1;have g:=IH g;refine ALp.round (A:=Bh (bp kd) false) (V2:=bt [(5,.fsl true (kinds.map aN)),(6,I (.ofNat (i+1)))] k (ax o) es) (F:=bt [(5,.fsl true (kinds.map aN)),(6,I (.ofNat i))] k (ax o) es) (lk:=[(0,0),(1,1),(2,2)]) (lk':=[(0,0),(1,1),(2,2)]) base0 ar (LsOk.no rfl) .refl ?_;unfold bp at g⊢;rw[hd] at g⊢;unfold ax at hO hn⊢;rw[HU,dA (by omega),wZ];exact ai (fun _=>⟨g,⟨⟨⟨rfl,hT⟩,rflTwoQ,ad⟩,⟨rflTwoQ,rflTwoQ,ad⟩,⟨rfl,hO⟩,⟨⟨rfl,rfl,rfl,rfl,rfl⟩,ad⟩,⟨rfl,hc⟩,ad⟩,hn⟩) fun e=>absurd e (gL hlt)
theorem Vg {d:Nat} (h:d<10):aF prog 26 (.ptr 0 7) (I (.ofNat d))=some (.ptr 0 (7+d*2)):=
 match d,h with
 |0,_|1,_|2,_|3,_|4,_|5,_|6,_|7,_|8,_|9,_=>by kernel_rfl
 |n+10,h=>absurd h (by omega)
theorem Vh (o:Ob) {d:Nat} (h:d<10):bZ prog 4 (ax o) (7+d*2+0)=some (.bool (dh o d).has):=
 match d,h with
 |0,_|1,_|2,_|3,_|4,_|5,_|6,_|7,_|8,_|9,_=>by kernel_rfl
 |n+10,h=>absurd h (by omega)
theorem Vi (o:Ob) {d:Nat} (h:d<10):bZ prog 2 (ax o) (7+d*2+1)=some (I (dh o d).t):=
 match d,h with
 |0,_|1,_|2,_|3,_|4,_|5,_|6,_|7,_|8,_|9,_=>by kernel_rfl
 |n+10,h=>absurd h (by omega)
theorem II (o:Ob) {d:Nat} (h:d<10):aS o (.dat d)=fG (dh o d).has (cW (aC (.dat d)) 9 (dh o d).t):=
 match d,h with
 |0,_|1,_|2,_|3,_|4,_|5,_|6,_|7,_|8,_|9,_=>rfl
 |n+10,h=>absurd h (by omega)
theorem Vj {d i:Nat} (hd:d<10) (g0:kinds[i]? =some (.dat d)) {k:Nat} {es:List AV} (hc:ae es=true) (hl:es.length=k*7) (hk:k≤1000)
  (hn:ALp prog opts0.glob 0 (aJ prog 45 17) (bt [(5,.fsl true (kinds.map aN)),(6,I (.ofNat (i+1)))] (k+(aS o (.dat d)).length) (ax o) (es++flat (aS o (.dat d)))).st Q):
  ALp prog opts0.glob 0 (aJ prog 45 17) (bt [(5,.fsl true (kinds.map aN)),(6,I (.ofNat i))] k (ax o) es).st Q:=by
 have hO:=bX o;have hT:=wY;have hlt:i<20:=(List.getElem?_eq_some_iff.1 g0).1;have g:aF prog 140 (.fsl true (kinds.map aN)) (I (.ofNat i))=some (.fptr (tN (aC (.dat d)) (wB d) (wD d) (dR (.dat d)) (.ofNat d)) 0):=IH g0;have hr:=jq (aC (.dat d)) 9 (dh o d).t;have hp:=Vg hd;have h1:=Vh o hd;have h2:=Vi o hd;rw[II o hd] at hn;generalize dh o d=dd at hn hr h1 h2;cases hh:dd.has with
 |true=>
  rw[hh] at hn h1;have hn:ALp prog opts0.glob 0 (aJ prog 45 17) (bt [(5,.fsl true (kinds.map aN)),(6,I (.ofNat (i+1)))] (k+1) (ax o) (es++flat [cW (aC (.dat d)) 9 dd.t])).st Q:=hn;have hc2:ae (es++flat [cW (aC (.dat d)) 9 dd.t])=true:=by rw[ez,hc];rfl
  refine ALp.round (A:=wE (tN (aC (.dat d)) (wB d) (wD d) (dR (.dat d)) (.ofNat d)) (7+d*2) true dd.t) (V2:=bt [(5,.fsl true (kinds.map aN)),(6,I (.ofNat (i+1)))] (k+1) (ax o) (es++flat [cW (aC (.dat d)) 9 dd.t])) (F:=bt [(5,.fsl true (kinds.map aN)),(6,I (.ofNat i))] k (ax o) es) (lk:=[(0,0),(1,1),(2,58)]) (lk':=[(0,0),(1,1),(2,2)]) base0 ar (LsOk.no rfl) .refl ?_;unfold ax at hO hn h1 h2⊢;rw[TU,dA (by omega),wZ];exact ai (fun _=>⟨g,g,hp,h1,g,g,hp,h2,aD (fT hr rfl (by omega)) (aD (fI hl) ⟨⟨⟨⟨rfl,hT⟩,rflTwoQ,ad⟩,⟨rflTwoQ,rflTwoQ,ad⟩,⟨rfl,hO⟩,⟨⟨rfl,rfl,rfl,rfl,rfl⟩,ad⟩,⟨rfl,hc2⟩,ad⟩,hn⟩)⟩) fun e=>absurd e (gL hlt)
 |false=>
  rw[hh,show fG false (cW (aC (.dat d)) 9 dd.t)=[] from rfl,show flat ([]:List AV)=[] from rfl,List.append_nil,List.length_nil,Nat.add_zero] at hn
  rw[hh] at h1;refine ALp.round (A:=wE (tN (aC (.dat d)) (wB d) (wD d) (dR (.dat d)) (.ofNat d)) (7+d*2) false dd.t) (V2:=bt [(5,.fsl true (kinds.map aN)),(6,I (.ofNat (i+1)))] k (ax o) es) (F:=bt [(5,.fsl true (kinds.map aN)),(6,I (.ofNat i))] k (ax o) es) (lk:=[(0,0),(1,1),(2,2)]) (lk':=[(0,0),(1,1),(2,2)]) base0 ar (LsOk.no rfl) .refl ?_;unfold ax at hO hn h1⊢;rw[TV,dA (by omega),wZ];exact ai (fun _=>⟨g,g,hp,h1,⟨⟨⟨rfl,hT⟩,rflTwoQ,ad⟩,⟨rflTwoQ,rflTwoQ,ad⟩,⟨rfl,hO⟩,⟨⟨rfl,rfl,rfl,rfl,rfl⟩,ad⟩,⟨rfl,hc⟩,ad⟩,hn⟩) fun e=>absurd e (gL hlt)
theorem rg {b:Bool} {x:AV}:(fG b x).length≤1:=by cases b<;>simp[fG]
def ky (o:Ob) (k:Nat):Nat→Nat
 |0=>k
 |d+1=>ky o k d+(aS o (.dat d)).length
def kz (o:Ob) (es:List AV):Nat→List AV
 |0=>es
 |d+1=>kz o es d++flat (aS o (.dat d))
theorem IJ {k:Nat} {es:List AV} (hc:ae es=true) (hl:es.length=k*7) (hk:k≤1000):∀d,d≤10→ae (kz o es d)=true∧(kz o es d).length=ky o k d*7∧ky o k d≤k+d
 |0,_=>⟨hc,hl,Nat.le_refl _⟩
 |d+1,h=>by
  obtain ⟨h1,h2,h3⟩:=IJ hc hl hk d (by omega);have h4:(aS o (.dat d)).length≤1:=by rw[II o (by omega)];exact rg
  refine ⟨?_, ?_, ?_⟩
  ·rw[kz,ez,h1,ib (gw _ _)];rfl
  ·rw[kz,List.length_append,h2,jX (gw _ _),ky,Nat.add_mul]
  ·rw[ky];omega
theorem Vk {k:Nat} {es:List AV} (hc:ae es=true) (hl:es.length=k*7) (hk:k≤900)
  (hq:Q (.exit 2) (bt [(5,.fsl true (kinds.map aN)),(6,I 20)] (k+(aS o (.dat 0)).length+(aS o (.dat 1)).length+(aS o (.dat 2)).length+(aS o (.dat 3)).length+(aS o (.dat 4)).length+(aS o (.dat 5)).length+(aS o (.dat 6)).length+(aS o (.dat 7)).length+(aS o (.dat 8)).length+(aS o (.dat 9)).length) (ax o) (es++flat (aS o (.dat 0))++flat (aS o (.dat 1))++flat (aS o (.dat 2))++flat (aS o (.dat 3))++flat (aS o (.dat 4))++flat (aS o (.dat 5))++flat (aS o (.dat 6))++flat (aS o (.dat 7))++flat (aS o (.dat 8))++flat (aS o (.dat 9)))).st):
  ALp prog opts0.glob 0 (aJ prog 45 17) (bt [(5,.fsl true (kinds.map aN)),(6,I 0)] k (ax o) es).st Q:=by
 have hO:=bX o;have hT:=wY;have st:=IJ (o:=o) hc hl (by omega);have h20:ALp prog opts0.glob 0 (aJ prog 45 17) (bt [(5,.fsl true (kinds.map aN)),(6,I (.ofNat 20))] (ky o k 10) (ax o) (kz o es 10)).st Q:=by
  have c10:=(st 10 (Nat.le_refl _)).1;have hq:Q (.exit 2) (bt [(5,.fsl true (kinds.map aN)),(6,I 20)] (ky o k 10) (ax o) (kz o es 10)).st:=hq;generalize kz o es 10=es' at hq c10⊢;generalize ky o k 10=k' at hq⊢;refine ALp.round (A:=Bh (bp .uid) false) (V2:=bt [(5,.fsl true (kinds.map aN)),(6,I 0)] 0 (ax o) []) (F:=bt [(5,.fsl true (kinds.map aN)),(6,I (.ofNat 20))] k' (ax o) es') (lk:=[(0,0),(1,1),(2,2)]) (lk':=[(0,0),(1,1),(2,2)]) base0 ar (LsOk.no rfl) .refl ?_;unfold bp;rw[show Bf .uid= -1 from rfl]
  unfold ax at hO hq⊢;rw[HU,wZ];exact ai (fun e=>by cases e) fun _=>⟨⟨⟨⟨rfl,hT⟩,rflTwoQ,ad⟩,⟨rflTwoQ,rflTwoQ,ad⟩,⟨rfl,hO⟩,⟨⟨rfl,rfl,rfl,rfl,rfl⟩,ad⟩,⟨rfl,c10⟩,ad⟩,hq⟩
 have c10:=(st 10 (Nat.le_refl _)).1;have h19:=kx (i:=19) (o:=o) rfl rfl c10 h20;have h18:=kx (i:=18) (o:=o) rfl rfl c10 h19;have h17:=kx (i:=17) (o:=o) rfl rfl c10 h18;have dn:∀d,d<10→kinds[d+7]? =some (.dat d)→ALp prog opts0.glob 0 (aJ prog 45 17) (bt [(5,.fsl true (kinds.map aN)),(6,I (.ofNat (d+7+1)))] (ky o k (d+1)) (ax o) (kz o es (d+1))).st Q→ALp prog opts0.glob 0 (aJ prog 45 17) (bt [(5,.fsl true (kinds.map aN)),(6,I (.ofNat (d+7)))] (ky o k d) (ax o) (kz o es d)).st Q:=fun d hd g h=>Vj hd g (st d (by omega)).1 (st d (by omega)).2.1 (by have:=(st d (by omega)).2.2;omega) h;have h7:=dn 0 (by decide) rfl (dn 1 (by decide) rfl (dn 2 (by decide) rfl (dn 3 (by decide) rfl (dn 4 (by decide) rfl (dn 5 (by decide) rfl (dn 6 (by decide) rfl (dn 7 (by decide) rfl (dn 8 (by decide) rfl (dn 9 (by decide) rfl h17)))))))));have h6:=kx (i:=6) (o:=o) rfl rfl hc h7;have h5:=kx (i:=5) (o:=o) rfl rfl hc h6;have h4:=kx (i:=4) (o:=o) rfl rfl hc h5;have h3:=kx (i:=3) (o:=o) rfl rfl hc h4;have h2:=kx (i:=2) (o:=o) rfl rfl hc h3;have h1:=kx (i:=1) (o:=o) rfl rfl hc h2;have h0:=kx (i:=0) (o:=o) rfl rfl hc h1;exact h0
end
section
variable {o:Ob} {Q:AExit→St→Prop}
theorem Vl {i k:Nat} {es:List AV} {c:Cu} (g:o.cust[i]? =some c) (hi:i≤1000) (hc:ae es=true)
  (hq:Q (.exit 8) (bt [(9,I (.ofNat i)),(10,I (.ofNat (aW c.name (o.cust.take i)))),(11,I (.ofNat i))] k (ax o) es).st):
  ∀m j:Nat,j+m=i→ALp prog opts0.glob 0 (aJ prog 45 37) (bt [(9,I (.ofNat i)),(10,I (.ofNat (aW c.name (o.cust.take j)))),(11,I (.ofNat j))] k (ax o) es).st Q:=by
 have hO:=bX o;have hlt:=(List.getElem?_eq_some_iff.1 g).1;intro m
 induction m with
 |zero=>
  intro j hj;rw[Nat.add_zero] at hj;subst hj;refine ALp.round (A:=wF [] [] [] []) (V2:=bt [(9,I (.ofNat j)),(10,I 0),(11,I 0)] k (ax o) es) (F:=bt [(9,I (.ofNat j)),(10,I (.ofNat (aW c.name (o.cust.take j)))),(11,I (.ofNat j))] k (ax o) es) (lk:=[(0,0),(1,1),(2,2)]) (lk':=[(0,0),(1,1),(2,2)]) base0 ar (LsOk.no rfl) .refl ?_;unfold ax bD at hO hq⊢;rw[Bl];exact ai (fun e=>(nr e).elim) fun _=>⟨⟨⟨rflTwoQ,rflTwoQ,rflTwoQ,ad⟩,⟨rflTwoQ,rflTwoQ,ad⟩,⟨rfl,hO⟩,⟨⟨rfl,rfl,rfl,rfl,rfl⟩,ad⟩,⟨rfl,hc⟩,ad⟩,hq⟩
 | succ m ih=>
  intro j hj;have hjl:j<o.cust.length:=by omega
  have gj:=List.getElem?_eq_getElem hjl;have ih:=ih (j+1) (by omega);rw[iR gj,qY] at ih;have hcl:=tY c.name (o.cust.take j);have htl:=List.length_take_le j o.cust;revert gj ih;generalize o.cust[j]=x;revert hcl;generalize aW c.name (o.cust.take j)=n;intro hcl gj ih;have g1:=BP gj;have g2:=BP g;have hw:=dA (p:=j) (by omega);have hn:n≤1000:=by rw[List.length_take] at hcl;omega
  have hw2:=dA (p:=n) (by omega);cases hx:aI x.name c.name with
  |true=>
   rw[hx] at ih;refine ALp.round (A:=wF x.name x.text c.name c.text) (V2:=bt [(9,I (.ofNat i)),(10,I (.ofNat (n+1))),(11,I (.ofNat (j+1)))] k (ax o) es) (F:=bt [(9,I (.ofNat i)),(10,I (.ofNat n)),(11,I (.ofNat j))] k (ax o) es) (lk:=[(0,0),(1,1),(2,2)]) (lk':=[(0,0),(1,1),(2,2)]) base0 ar (LsOk.no rfl) .refl ?_;unfold ax bD at hO ih⊢;rw[Bl,hw,hw2];exact ai (fun _=>⟨g1,g2,ai (fun _=>⟨⟨⟨rflTwoQ,rflTwoQ,rflTwoQ,ad⟩,⟨rflTwoQ,rflTwoQ,ad⟩,⟨rfl,hO⟩,⟨⟨rfl,rfl,rfl,rfl,rfl⟩,ad⟩,⟨rfl,hc⟩,ad⟩,ih⟩) fun e=>by rw[hx] at e;cases e⟩) fun e=>absurd e (gL (by omega))
  |false=>
   rw[hx] at ih;refine ALp.round (A:=wF x.name x.text c.name c.text) (V2:=bt [(9,I (.ofNat i)),(10,I (.ofNat n)),(11,I (.ofNat (j+1)))] k (ax o) es) (F:=bt [(9,I (.ofNat i)),(10,I (.ofNat n)),(11,I (.ofNat j))] k (ax o) es) (lk:=[(0,0),(1,1),(2,2)]) (lk':=[(0,0),(1,1),(2,2)]) base0 ar (LsOk.no rfl) .refl ?_;unfold ax bD at hO ih⊢;rw[Bl,hw,hw2];exact ai (fun _=>⟨g1,g2,ai (fun e=>by rw[hx] at e;cases e) fun _=>⟨⟨⟨rflTwoQ,rflTwoQ,rflTwoQ,ad⟩,⟨rflTwoQ,rflTwoQ,ad⟩,⟨rfl,hO⟩,⟨⟨rfl,rfl,rfl,rfl,rfl⟩,ad⟩,⟨rfl,hc⟩,ad⟩,ih⟩⟩) fun e=>absurd e (gL (by omega))
theorem IK:bW (aJ prog 45 33) 37=[aJ prog 45 37]:=by kernel_rfl
theorem Vm {B:List AV} {k0:Nat} (hB:B.length=k0*7) (hBc:ae B=true) (hk:k0≤1000) (hn:o.cust.length≤1000)
  (hq:Q (.exit 6) (bt [(9,I (.ofNat o.cust.length))] (k0+o.cust.length) (ax o) (B++flat (dS [] o.cust))).st):
  ∀m i:Nat,i+m=o.cust.length→ALp prog opts0.glob 0 (aJ prog 45 33) (bt [(9,I (.ofNat i))] (k0+i) (ax o) (B++flat (dS [] (o.cust.take i)))).st Q:=by
 have hO:=bX o;have hlen:ab (o.cust.map az)=o.cust.length:=by rw[aM,List.length_map]
 intro m
 induction m with
 |zero=>
  intro i hi;rw[Nat.add_zero] at hi;subst hi;rw[List.take_of_length_le (Nat.le_refl _)];have hc:ae (B++flat (dS [] o.cust))=true:=by rw[ez,hBc,BM];rfl
  refine ALp.round (A:=Bm False [] [] (.ofNat o.cust.length) 0 (k0+o.cust.length) (ax o) (B++flat (dS [] o.cust))) (V2:=bt [(9,I 0)] 0 (ax o) []) (F:=bt [(9,I (.ofNat o.cust.length))] (k0+o.cust.length) (ax o) (B++flat (dS [] o.cust))) (lk:=[(0,0),(1,1),(2,36)]) (lk':=[(0,0),(1,1),(2,2)]) base0 ar (LsOk.at1 rfl IK fun st Q hs=>hs.1.elim) .refl ?_;unfold ax bD at hO hq⊢;rw[HW,hlen];exact ai (fun e=>(nr e).elim) fun _=>⟨⟨⟨rflTwoQ,ad⟩,⟨rflTwoQ,rflTwoQ,ad⟩,⟨rfl,hO⟩,⟨⟨rfl,rfl,rfl,rfl,rfl⟩,ad⟩,⟨rfl,hc⟩,ad⟩,hq⟩
 | succ m ih=>
  intro i hi;have hlt:i<o.cust.length:=by omega
  have g:=List.getElem?_eq_getElem hlt;have ih:=ih (i+1) (by omega);have hti:(o.cust.take i).length=i:=by rw[List.length_take];omega
  rw[iR g,Ix,ea,←List.append_assoc,List.nil_append,←Nat.add_assoc] at ih;have hpc:=BM (o.cust.take i) [];have hpl:=Iy (o.cust.take i) [];rw[hti] at hpl;revert g ih;generalize o.cust[i]=x;intro g ih;have hc:ae (B++flat (dS [] (o.cust.take i)))=true:=by rw[ez,hBc,hpc];rfl
  have hl:(B++flat (dS [] (o.cust.take i))).length=(k0+i)*7:=by rw[List.length_append,hB,hpl];omega
  have hrun:=fun Q hq=>Vl (o:=o) (Q:=Q) (k:=k0+i) g (by omega) hc hq i 0 (Nat.zero_add _);rw[show o.cust.take 0=[] from List.take_zero] at hrun
  revert ih hc hl hrun;generalize B++flat (dS [] (o.cust.take i))=P;generalize aW x.name (o.cust.take i)=n;intro ih hc hl hrun;have hr:fH (iV x n):=⟨by simp[iV,ag,ae],by simp[iV,AV.cells,ag,ae],rfl,rflTwoQ⟩;have hc2:ae (P++flat [iV x n])=true:=Va hc;have g:=BP g;refine ALp.round (A:=Bm True x.name x.text (.ofNat i) (.ofNat n) (k0+i) (ax o) P) (V2:=bt [(9,I (.ofNat (i+1)))] (k0+i+1) (ax o) (P++flat [iV x n])) (F:=bt [(9,I (.ofNat i))] (k0+i) (ax o) P) (lk:=[(0,0),(1,1),(2,36)]) (lk':=[(0,0),(1,1),(2,2)]) base0 ar
   (LsOk.at1 rfl IK fun st Q hs=> .seen base0.glob hs.2.1 (hrun Q hs.2.2)) .refl ?_
  unfold ax bD at hO ih⊢;rw[HW,dA (by omega)];exact ai (fun _=>⟨trivial,⟨⟨rflTwoQ,rflTwoQ,rflTwoQ,ad⟩,⟨rflTwoQ,rflTwoQ,ad⟩,⟨rfl,hO⟩,⟨⟨rfl,rfl,rfl,rfl,rfl⟩,ad⟩,⟨rfl,hc⟩,ad⟩,g,g,aD (fT hr rfl (by omega)) (aD (fI hl) ⟨⟨⟨rflTwoQ,ad⟩,⟨rflTwoQ,rflTwoQ,ad⟩,⟨rfl,hO⟩,⟨⟨rfl,rfl,rfl,rfl,rfl⟩,ad⟩,⟨rfl,hc2⟩,ad⟩,ih⟩)⟩) fun e=>absurd (hlen▸e) (gL hlt)
end
theorem BV:∀ {a b c d:List AV},WkE a b→WkE c d→WkE (a++c) (b++d)
 |[],[],_,_,_,h=>h
 |x::_,y::_,_,_,h,h2=> .cons (h.at_ 0 x y rfl rfl) (BV ⟨by have:=h.len;simpa using this,fun i u v h3 h4=>h.at_ (i+1) u v h3 h4⟩ h2)
 |[],_::_,_,_,h,_=>by have:=h.len;simp at this
 |_::_,[],_,_,h,_=>by have:=h.len;simp at this
theorem Vn {P:Program} {G:aZ} {nx0 r1 r2 r3 r4:Nat} {L1 L2 L3 L4:bV} {b1 b2 b3 b4:Code} {c:Code} {A:bz} (hA:A.ls=ll [(r1,L1),(r2,L2),(r3,L3),(r4,L4)]) (a1:bW c r1=[b1]) (a2:bW c r2=[b2]) (a3:bW c r3=[b3]) (a4:bW c r4=[b4])
  (h1:∀s Q,L1 s Q→AWp P G nx0 (.loop b1) s Q) (h2:∀s Q,L2 s Q→AWp P G nx0 (.loop b2) s Q) (h3:∀s Q,L3 s Q→AWp P G nx0 (.loop b3) s Q) (h4:∀s Q,L4 s Q→AWp P G nx0 (.loop b4) s Q):LsOk P G nx0 A c:=
 LsOk.many hA fun p hp b hb s Q hs=>by
  simp only[mConQ,List.not_mem_nil,or_false] at hp;rcases hp with rfl|rfl|rfl|rfl
  ·rw[a1,List.mem_singleton] at hb;subst hb;exact h1 s Q hs
  ·rw[a2,List.mem_singleton] at hb;subst hb;exact h2 s Q hs
  ·rw[a3,List.mem_singleton] at hb;subst hb;exact h3 s Q hs
  ·rw[a4,List.mem_singleton] at hb;subst hb;exact h4 s Q hs
theorem Vo:bW (dI prog 45) 5=[aJ prog 45 5]:=by kernel_rfl
theorem Vp:bW (dI prog 45) 17=[aJ prog 45 17]:=by kernel_rfl
theorem Vq:bW (dI prog 45) 27=[aJ prog 45 27]:=by kernel_rfl
theorem Vr:bW (dI prog 45) 33=[aJ prog 45 33]:=by kernel_rfl
def ua (o:Ob) (l:List AV):List AV:=l++aS o (.dat 0)++aS o (.dat 1)++aS o (.dat 2)++aS o (.dat 3)++aS o (.dat 4)++aS o (.dat 5)++aS o (.dat 6)++aS o (.dat 7)++aS o (.dat 8)++aS o (.dat 9)
def lW (o:Ob):List AV:=ua o (aS o .uid++aS o .nam++aS o .typ++aS o .alg++aS o .len++aS o .mask++aS o .sta)++aS o .why++aS o .lnk++aS o .lim++dS [] o.cust
theorem Vt (o:Ob):WkE (lW o) ((gq o).map aK):=by
 have h:∀k,lJ k=true→(∀s,k≠ .cus s)→WkE (aS o k) ((bo (aC k) (aA o k) 0).map aK):=Vb o;simp only[lW,ua,List.append_assoc,gq,kinds,lU,List.nil_append,List.map_append]
 repeat' first|exact BO _ _|exact BV (h _ rfl fun _ e=>by cases e) ?_|refine BV (h _ rfl fun _ e=>by cases e) ?_
theorem Vu (o:Ob):∀e∈lW o,fH e:=fun e he=>by
 simp only[lW,ua,List.mem_append] at he
 repeat' first|exact gw o _ e ‹_› |exact IE _ _ e ‹_› |rcases he with he|he
set_option maxRecDepth 20000 in
theorem Vv {o:Ob} (ho:cI o):SC 45 [au o] (.fsl false ((gq o).map aK)):=by
 have hO:=bX o;have hcl:ae [au o]=true:=cS o (c:=[]) rfl;have hT:=wY;have hn:=ho.n;have hl:=ho.l;have hcu:=ho.c;have hnl:(aS o .nam).length=o.names.length:=BQ _ _ _;have hll:(aS o .lnk).length=o.links.length:=BR _ _;have na:(aS o .alg).length≤1:=rg;have nl:(aS o .len).length≤1:=rg;have nd:∀k,(aS o (.dat k)).length≤1:=fun k=>rg;have nw:(aS o .why).length≤1:=rg;have nm:(aS o .lim).length≤1:=rg;have a1:(!ao o.alg 0)=true→aS o .alg=[cW (aC .alg) 5 o.alg]:=fun e=>by simp only[aS,e,fG]
 have a0:(!ao o.alg 0)=false→aS o .alg=[]:=fun e=>by simp only[aS,e,fG]
 have b1:(!ao o.len 0)=true→aS o .len=[cW (aC .len) 2 o.len]:=fun e=>by simp only[aS,e,fG]
 have b0:(!ao o.len 0)=false→aS o .len=[]:=fun e=>by simp only[aS,e,fG]
 have w1:(!ao o.why 0)=true→aS o .why=[fF (aC .why) 0 (gM o)]:=fun e=>by simp only[aS,e,fG]
 have w0:(!ao o.why 0)=false→aS o .why=[]:=fun e=>by simp only[aS,e,fG]
 have m1:o.lh=true→aS o .lim=[fF (aC .lim) 0 (q7 o)]:=fun e=>by simp only[aS,e,fG]
 have m0:o.lh=false→aS o .lim=[]:=fun e=>by simp only[aS,e,fG]
 obtain ⟨E0,hE0⟩:∃E,E=flat (aS o .uid):=⟨_,rfl⟩;obtain ⟨K0,hK0⟩:∃K,K=(aS o .uid).length:=⟨_,rfl⟩;have c0:ae E0=true:=by rw[hE0];exact ib (gw _ _)
 have l0:E0.length=K0*7:=by rw[hE0,hK0];exact jX (gw _ _)
 obtain ⟨E1,hE1⟩:∃E,E=E0++flat (aS o .nam):=⟨_,rfl⟩;obtain ⟨K1,hK1⟩:∃K,K=K0+o.names.length:=⟨_,rfl⟩;have c1:ae E1=true:=by rw[hE1,ez,c0,ib (gw _ _)];rfl
 have l1:E1.length=K1*7:=by rw[hE1,hK1,List.length_append,l0,jX (gw _ _),hnl,Nat.add_mul]
 obtain ⟨E2,hE2⟩:∃E,E=E1++flat (aS o .typ)++flat (aS o .alg)++flat (aS o .len)++flat (aS o .mask)++flat (aS o .sta):=⟨_,rfl⟩;obtain ⟨K2,hK2⟩:∃K,K=K1+1+(aS o .alg).length+(aS o .len).length+1+1:=⟨_,rfl⟩;have c2:ae E2=true:=by
  rw[hE2];simp only[ez,c1,ib (gw o _),Bool.and_self]
 have l2:E2.length=K2*7:=by
  have h1:(aS o .typ).length=1:=rfl;have h2:(aS o .mask).length=1:=rfl;have h3:(aS o .sta).length=1:=rfl;rw[hE2,hK2];simp only[List.length_append,l1,jX (gw o _),h1,h2,h3];omega
 obtain ⟨E3,hE3⟩:∃E,E=E2++flat (aS o (.dat 0))++flat (aS o (.dat 1))++flat (aS o (.dat 2))++flat (aS o (.dat 3))++flat (aS o (.dat 4))++flat (aS o (.dat 5))++flat (aS o (.dat 6))++flat (aS o (.dat 7))++flat (aS o (.dat 8))++flat (aS o (.dat 9)):=⟨_,rfl⟩;obtain ⟨K3,hK3⟩:∃K,K=K2+(aS o (.dat 0)).length+(aS o (.dat 1)).length+(aS o (.dat 2)).length+(aS o (.dat 3)).length+(aS o (.dat 4)).length+(aS o (.dat 5)).length+(aS o (.dat 6)).length+(aS o (.dat 7)).length+(aS o (.dat 8)).length+(aS o (.dat 9)).length:=⟨_,rfl⟩;have c3:ae E3=true:=by
  rw[hE3];simp only[ez,c2,ib (gw o _),Bool.and_self]
 have l3:E3.length=K3*7:=by
  rw[hE3,hK3];simp only[List.length_append,l2,jX (gw o _),Nat.add_mul]
 obtain ⟨E4,hE4⟩:∃E,E=E3++flat (aS o .why):=⟨_,rfl⟩;obtain ⟨K4,hK4⟩:∃K,K=K3+(aS o .why).length:=⟨_,rfl⟩;have c4:ae E4=true:=by rw[hE4,ez,c3,ib (gw _ _)];rfl
 have l4:E4.length=K4*7:=by rw[hE4,hK4,List.length_append,l3,jX (gw _ _),Nat.add_mul]
 obtain ⟨E5,hE5⟩:∃E,E=E4++flat (aS o .lnk):=⟨_,rfl⟩;obtain ⟨K5,hK5⟩:∃K,K=K4+o.links.length:=⟨_,rfl⟩;have c5:ae E5=true:=by rw[hE5,ez,c4,ib (gw _ _)];rfl
 have l5:E5.length=K5*7:=by rw[hE5,hK5,List.length_append,l4,jX (gw _ _),hll,Nat.add_mul]
 obtain ⟨E6,hE6⟩:∃E,E=E5++flat (aS o .lim):=⟨_,rfl⟩;obtain ⟨K6,hK6⟩:∃K,K=K5+(aS o .lim).length:=⟨_,rfl⟩;have c6:ae E6=true:=by rw[hE6,ez,c5,ib (gw _ _)];rfl
 have l6:E6.length=K6*7:=by rw[hE6,hK6,List.length_append,l5,jX (gw _ _),Nat.add_mul]
 obtain ⟨E7,hE7⟩:∃E,E=E6++flat (dS [] o.cust):=⟨_,rfl⟩;obtain ⟨K7,hK7⟩:∃K,K=K6+o.cust.length:=⟨_,rfl⟩;have e7:E7=flat (lW o):=by
  rw[hE7,hE6,hE5,hE4,hE3,hE2,hE1,hE0];simp only[lW,ua,ea]
 have k7:K7=(lW o).length:=by
  rw[hK7,hK6,hK5,hK4,hK3,hK2,hK1,hK0];have h1:(aS o .typ).length=1:=rfl;have h2:(aS o .mask).length=1:=rfl;have h3:(aS o .sta).length=1:=rfl;simp only[lW,ua,List.length_append,hnl,hll,h1,h2,h3,BK]
 have k0:K0=1:=hK0;have n0:=nd 0;have n1:=nd 1;have n2:=nd 2;have n3:=nd 3;have n4:=nd 4;have n5:=nd 5;have n6:=nd 6;have n7:=nd 7;have n8:=nd 8;have n9:=nd 9;refine dg (A:=vC (aB [] [(5,HX (.ofNat o.names.length) K0 K1 (ax o) E0 E1),(17,HY (kinds.map aN) K2 K3 (ax o) E2 E3),(27,HZ (.ofNat o.links.length) K4 K5 (ax o) E4 E5),(33,H3 (.ofNat o.cust.length) K6 K7 (ax o) E6 E7)] (bP [(95,.fsl true (kinds.map aN))]) nc nf) 24 20 (H4 K3 (ax o) E3 (gM o))) base0 (Na ar)
  (aG (Vn rfl Vo Vp Vq Vr (fun st Q hs=> .seen base0.glob hs.1 ?_) (fun st Q hs=> .seen base0.glob hs.1 ?_) (fun st Q hs=> .seen base0.glob hs.1 ?_) (fun st Q hs=> .seen base0.glob hs.1 ?_))) hcl ?_
 ·have hq:=hs.2;rw[hE1,hK1] at hq;have:=Ve l0 c0 (by omega) (by omega) hq o.names.length 0 (Nat.zero_add _);rw[show o.names.take 0=[] from List.take_zero,show flat (gu (aC .nam) [] 0)=[] from rfl,List.append_nil] at this
  exact this
 ·have hq:=hs.2;rw[hE3,hK3] at hq;exact Vk c2 l2 (by omega) hq
 ·have hq:=hs.2;rw[hE5,hK5] at hq;have:=Vf l4 c4 (by omega) (by omega) hq o.links.length 0 (Nat.zero_add _);rw[show o.links.take 0=[] from List.take_zero,show flat (gv [] 0)=[] from rfl,List.append_nil] at this
  exact this
 ·have hq:=hs.2;rw[hE7,hK7] at hq;have:=Vm l6 c6 (by omega) (by omega) hq o.cust.length 0 (Nat.zero_add _);rw[show o.cust.take 0=[] from List.take_zero,show flat (dS [] [])=[] from rfl,List.append_nil] at this
  exact this
 ·have hw:=Vt o;have hr:=Vu o;revert e7 k7 hw hr;generalize lW o=AR;intro e7 k7 hw hr;have hend:lp (.fsl false ((gq o).map aK)) (.rsl true 2 0 K7 7) [(0,some (.cells (ax o))),(1,some (.cells [.rsl true 2 0 K7 7])),(2,some (.cells E7))]:=
   ⟨.fsl false AR,(Frz.row rfl rfl e7 k7 (fun e he=>(hr e he).g) (BU hr)).out,jO (BU hr),.rows hw⟩
  unfold au ax bR bS bD at*
  rw[TX];intro R1 R2 R3;have h1:R1:=by
   refine ai (fun e=> ?_) (fun e=> ?_)
   ·have q:=fT (k:=K5) (ID o) rfl (by omega);have q2:=fI l5;have q3:K6=K5+ab [fF (aC .lim) 0 (q7 o)]:=by rw[hK6,m1 e];rfl
    have q4:E5++flat [fF (aC .lim) 0 (q7 o)]=E6:=by rw[hE6,m1 e]
    refine aD q ?_;refine aD q2 ?_;refine ⟨?_,hend⟩;exact ⟨⟨rflTwoQ,ad⟩,⟨rflTwoQ,rflTwoQ,ad⟩,⟨rfl,hO⟩,⟨⟨rfl,rfl,rfl,q3,rfl⟩,ad⟩,⟨q4,c6⟩,ad⟩
   ·have q3:K6=K5:=by rw[hK6,m0 e];rfl
    have q4:E5=E6:=by rw[hE6,m0 e];exact (List.append_nil _).symm
    refine ⟨?_,hend⟩;exact ⟨⟨rflTwoQ,ad⟩,⟨rflTwoQ,rflTwoQ,ad⟩,⟨rfl,hO⟩,⟨⟨rfl,rfl,rfl,q3,rfl⟩,ad⟩,⟨q4,c6⟩,ad⟩
  have h2:(!ao o.why 0)=true→R2:=fun ew=>by
   have q:=fT (k:=K3) (IC o) (by unfold gM;split<;>rfl) (by omega);have q2:=fI l3;have hfit:aY prog 37 (.agg [I 4325387,I 1,I 0,.nilsl,gM o]) 5=true:=Af (by kernel_rfl) rfl (by unfold gM;split<;>rfl);have hfit:(aY prog 37 (.agg [I 4325387,I 1,I 0,.nilsl,gM o]) 5&&true)=true:=by rw[hfit];rfl
   have q3:K4=K3+ab [fF (aC .why) 0 (gM o)]:=by rw[hK4,w1 ew];rfl
   have q4:E3++flat [fF (aC .why) 0 (gM o)]=E4:=by rw[hE4,w1 ew]
   refine ai (fun e=> ?_) (fun e=> ?_)
   ·have hk:gM o= .fsl false [.agg [I 4325506,I 5,I o.why,.nilsl,.nilsl],.agg [I 4325504,I 7,I 0,.fsl false (ak o.msg),.nilsl]]:=by
     unfold gM;rw[Bool.not_eq_true'] at e;rw[e]
    refine ⟨⟨⟨.keepP rfl,.keepP rfl,.keepP rfl,ad⟩,FrzL.closed _ hO,FrzL.cons (.keepR rfl) .nil,FrzL.closed _ c3,FrzL.cons (.closed _ rfl) (FrzL.cons (.closed _ rfl) (FrzL.cons (.closed _ rfl) (FrzL.cons (.closed _ rfl) (FrzL.cons ?_ .nil)))),ad⟩,aD hfit (aD q (aD q2 ⟨?_,h1⟩))⟩
    ·rw[hk];refine Frz.row (es:=[.agg [I 4325506,I 5,I o.why,.nilsl,.nilsl],.agg [I 4325504,I 7,I 0,.fsl false (ak o.msg),.nilsl]]) rfl rfl rfl rfl (fun e he=> ?_) (by simp[ag,ae]);simp only[mConQ,List.not_mem_nil,or_false] at he;rcases he with rfl|rfl<;>exact rflTwoQ
    ·exact ⟨⟨rflTwoQ,ad⟩,⟨rflTwoQ,rflTwoQ,ad⟩,⟨rfl,hO⟩,⟨⟨rfl,rfl,rfl,q3,rfl⟩,ad⟩,⟨q4,c4⟩,ad⟩
   ·have hk:gM o= .fsl true [.agg [I 4325506,I 5,I o.why,.nilsl,.nilsl]]:=by
     unfold gM;rw[Bool.not_eq_false'] at e;rw[e]
    refine ⟨⟨⟨.keepP rfl,.keepP rfl,.keepP rfl,ad⟩,FrzL.closed _ hO,FrzL.cons (.keepR rfl) .nil,FrzL.closed _ c3, ?_,ad⟩,aD hfit (aD q (aD q2 ⟨?_,h1⟩))⟩
    ·rw[hk];exact FrzL.closed _ rfl
    ·exact ⟨⟨rflTwoQ,ad⟩,⟨rflTwoQ,rflTwoQ,ad⟩,⟨rfl,hO⟩,⟨⟨rfl,rfl,rfl,q3,rfl⟩,ad⟩,⟨q4,c4⟩,ad⟩
  have h3:R3:=by
   refine ai (fun e=>h2 e) (fun e=> ?_);have q3:K4=K3:=by rw[hK4,w0 e];rfl
   have q4:E3=E4:=by rw[hE4,w0 e];exact (List.append_nil _).symm
   refine ⟨?_,h1⟩;exact ⟨⟨rflTwoQ,ad⟩,⟨rflTwoQ,rflTwoQ,ad⟩,⟨rfl,hO⟩,⟨⟨rfl,rfl,rfl,q3,rfl⟩,ad⟩,⟨q4,c4⟩,ad⟩
  have ln:∀x:AV,ab [x]=1:=fun _=>rfl;have fl:∀x:AV,(flat [x]).length=x.cells.length:=fun x=>by simp[flat]
  have ql:∀ {B:List AV} {k:Nat} {e:AV},B.length=k*7→fH e→(B++flat [e]).length=(k+ab [e])*7:=fun {B} {k} {e} h r=>by
   rw[List.length_append,h,fl,r.l,ln,Nat.add_mul]
  have qt:=jq (aC .typ) 5 o.ty;have qa:=jq (aC .alg) 5 o.alg;have qn:=jq (aC .len) 2 o.len;have qm:=jq (aC .mask) 2 o.mask;have qs:=jq (aC .sta) 5 o.st;have z0:E2=E1++flat [cW (aC .typ) 5 o.ty]++flat (aS o .alg)++flat (aS o .len)++flat [cW (aC .mask) 2 o.mask]++flat [cW (aC .sta) 5 o.st]:=hE2;have fn:flat ([]:List AV)=[]:=rfl;refine ⟨⟨⟨rflTwoQ,ad⟩,⟨rflTwoQ,rflTwoQ,ad⟩,⟨rfl,hO⟩,⟨⟨rfl,rfl,rfl,k0,rfl⟩,ad⟩,⟨hE0.symm,c0⟩,ad⟩,aD (fT qt rfl (by omega)) (aD (fI l1) (ai (fun e=> ?_) (fun e=> ?_)))⟩
  ·refine aD (fT qa rfl (by simp only[ln];omega)) (aD (fI (ql l1 qt)) (ai (fun e2=> ?_) (fun e2=> ?_)))
   ·rw[a1 e,b1 e2] at z0;have z1:K2=K1+ab [cW (aC .typ) 5 o.ty]+ab [cW (aC .alg) 5 o.alg]+ab [cW (aC .len) 2 o.len]+ab [cW (aC .mask) 2 o.mask]+ab [cW (aC .sta) 5 o.st]:=by
     rw[hK2,a1 e,b1 e2];rfl
    exact aD (fT qn rfl (by simp only[ln];omega)) (aD (fI (ql (ql l1 qt) qa)) (aD (fT qm rfl (by simp only[ln];omega)) (aD (fI (ql (ql (ql l1 qt) qa) qn)) (aD (fT qs rfl (by simp only[ln];omega)) (aD (fI (ql (ql (ql (ql l1 qt) qa) qn) qm)) (⟨tL,⟨⟨⟨rfl,hT⟩,rflTwoQ,ad⟩,⟨rflTwoQ,rflTwoQ,ad⟩,⟨rfl,hO⟩,⟨⟨rfl,rfl,rfl,z1,rfl⟩,ad⟩,⟨z0.symm,c2⟩,ad⟩,h3⟩))))))
   ·rw[a1 e,b0 e2,fn] at z0;simp only[List.append_nil] at z0;have z1:K2=K1+ab [cW (aC .typ) 5 o.ty]+ab [cW (aC .alg) 5 o.alg]+ab [cW (aC .mask) 2 o.mask]+ab [cW (aC .sta) 5 o.st]:=by
     rw[hK2,a1 e,b0 e2];rfl
    exact aD (fT qm rfl (by simp only[ln];omega)) (aD (fI (ql (ql l1 qt) qa)) (aD (fT qs rfl (by simp only[ln];omega)) (aD (fI (ql (ql (ql l1 qt) qa) qm)) (⟨tL,⟨⟨⟨rfl,hT⟩,rflTwoQ,ad⟩,⟨rflTwoQ,rflTwoQ,ad⟩,⟨rfl,hO⟩,⟨⟨rfl,rfl,rfl,z1,rfl⟩,ad⟩,⟨z0.symm,c2⟩,ad⟩,h3⟩))))
  ·refine ai (fun e2=> ?_) (fun e2=> ?_)
   ·rw[a0 e,b1 e2,fn] at z0;simp only[List.append_nil] at z0;have z1:K2=K1+ab [cW (aC .typ) 5 o.ty]+ab [cW (aC .len) 2 o.len]+ab [cW (aC .mask) 2 o.mask]+ab [cW (aC .sta) 5 o.st]:=by
     rw[hK2,a0 e,b1 e2];rfl
    exact aD (fT qn rfl (by simp only[ln];omega)) (aD (fI (ql l1 qt)) (aD (fT qm rfl (by simp only[ln];omega)) (aD (fI (ql (ql l1 qt) qn)) (aD (fT qs rfl (by simp only[ln];omega)) (aD (fI (ql (ql (ql l1 qt) qn) qm)) (⟨tL,⟨⟨⟨rfl,hT⟩,rflTwoQ,ad⟩,⟨rflTwoQ,rflTwoQ,ad⟩,⟨rfl,hO⟩,⟨⟨rfl,rfl,rfl,z1,rfl⟩,ad⟩,⟨z0.symm,c2⟩,ad⟩,h3⟩))))))
   ·rw[a0 e,b0 e2,fn] at z0;simp only[List.append_nil] at z0;have z1:K2=K1+ab [cW (aC .typ) 5 o.ty]+ab [cW (aC .mask) 2 o.mask]+ab [cW (aC .sta) 5 o.st]:=by
     rw[hK2,a0 e,b0 e2];rfl
    exact aD (fT qm rfl (by simp only[ln];omega)) (aD (fI (ql l1 qt)) (aD (fT qs rfl (by simp only[ln];omega)) (aD (fI (ql (ql l1 qt) qm)) (⟨tL,⟨⟨⟨rfl,hT⟩,rflTwoQ,ad⟩,⟨rflTwoQ,rflTwoQ,ad⟩,⟨rfl,hO⟩,⟨⟨rfl,rfl,rfl,z1,rfl⟩,ad⟩,⟨z0.symm,c2⟩,ad⟩,h3⟩))))
noncomputable section
def fJ (s:List UInt8) (i:Int) (Ls:List AV):View:=⟨[(1,.str s),(5,.nilsl),(6,.fsl false Ls),(7,I i)],[],[],0,31⟩
def fb (s:List UInt8) (i:Int) (k:Nat) (Ls es:List AV):View:=⟨[(1,.str s),(6,.fsl false Ls),(7,I i)],[(5,.rsl true 0 0 k 7)],[(0,.cells es,.whole)],1,31⟩
@[simp] abbrev lX (Ls:List AV):=(AV.fsl false Ls=AV.fsl false Ls∧ag (AV.fsl false Ls)=true)
abbrev iW (D K:List AV) (a q t y:Int) (n:List UInt8):=[AV.str n,I a,I t,I y,I q,AV.fsl false D,AV.fsl false K]
@[simp] abbrev lY (s:List UInt8):=(AV.str s=AV.str s∧ag (AV.str s)=true)
@[simp] abbrev ub:=(AV.nilsl=AV.nilsl∧true=true)
theorem IL (s n:List UInt8) (a t y q:Int) (D K Ls:List AV) (i j:Int) (N:Prop) (Q:AExit→St→Prop):aP prog opts0 40 (aB [(6,2,.res (.fptr (.str n::I a::am t y q D K) 0)),(6,6,.res (.bool false))] [] aR [] []) (aJ prog 17 5) (fJ s i Ls).st (cb 0 [] (fJ s j Ls) N [] (fJ s i Ls) Q)=
 (ac (ay i (Int.ofNat (ab Ls))) (aF prog 43 (.fsl false Ls) (I i)=some (.fptr (iW D K a q t y n) 0)∧aE prog BinOp.eql 9 (Operand.tmp 20) (Operand.tmp 21) (.str n) (.str s)=some (.bool false)∧(((lY s)∧ub∧(lX Ls)∧(I (aj IntKind.i64 (i+1))=I j∧ag (I j)=true)∧True)∧True∧True)∧N) ((((lY s)∧ub∧(lX Ls)∧(I i=I i∧ag (I i)=true)∧True)∧True∧True)∧Q (AExit.exit 0) (fJ s i Ls).st)):=by kernel_rfl
abbrev IM (D K:List AV) (a q t y:Int) (n:List UInt8):=(aB [(6,2,.res (AV.fptr (AV.str n::I a::am t y q D K) 0)),(6,6,.res (AV.bool true)),(7,3,.res (AV.fptr (AV.str n::I a::am t y q D K) 0))] [] aR [] [])
theorem Vw (s n:List UInt8) (a t y q:Int) (D K Ls es:List AV) (i j:Int) (k:Nat) (N:Prop) (Q:AExit→St→Prop):aP prog opts0 40 (IM D K a q t y n) (aJ prog 17 5) (fJ s i Ls).st (cb 0 [(0,17)] (fb s j k Ls es) N [] (fJ s i Ls) Q)=
 (ac (ay i (Int.ofNat (ab Ls))) (aF prog 43 (.fsl false Ls) (I i)=some (.fptr (iW D K a q t y n) 0)∧aE prog BinOp.eql 9 (Operand.tmp 20) (Operand.tmp 21) (.str n) (.str s)=some (.bool true)∧aF prog 43 (.fsl false Ls) (I i)=some (.fptr (iW D K a q t y n) 0)∧(((lY s)∧(lX Ls)∧(I (aj IntKind.i64 (i+1))=I j∧ag (I j)=true)∧True)∧((true=true∧some 17=some 17∧0=0∧k=ab [AV.agg (iW D K a q t y n)]∧7=7)∧True)∧(flat [AV.agg (iW D K a q t y n)]=es∧ae es=true)∧True)∧N) ((((lY s)∧ub∧(lX Ls)∧(I i=I i∧ag (I i)=true)∧True)∧True∧True)∧Q (AExit.exit 0) (fJ s i Ls).st)):=by kernel_rfl
@[simp] abbrev IO (Ls es:List AV) (Q:AExit→St→Prop) (i:Int) (k:Nat) (s:List UInt8):=((((lY s)∧(lX Ls)∧(I i=I i∧ag (I i)=true)∧True)∧((true=true∧some 0=some 0∧0=0∧k=k∧7=7)∧True)∧(es=es∧ae es=true)∧True)∧Q (AExit.exit 0) (fb s i k Ls es).st)
theorem IP (s n:List UInt8) (a t y q:Int) (D K Ls es:List AV) (i j:Int) (k:Nat) (N:Prop) (Q:AExit→St→Prop):aP prog opts0 40 (aB [(6,2,.res (.fptr (.str n::I a::am t y q D K) 0)),(6,6,.res (.bool false))] [] aR [] []) (aJ prog 17 5) (fb s i k Ls es).st (cb 0 [(0,0)] (fb s j k Ls es) N [(0,0)] (fb s i k Ls es) Q)=
 (ac (ay i (Int.ofNat (ab Ls))) (aF prog 43 (.fsl false Ls) (I i)=some (.fptr (iW D K a q t y n) 0)∧aE prog BinOp.eql 9 (Operand.tmp 20) (Operand.tmp 21) (.str n) (.str s)=some (.bool false)∧(((lY s)∧(lX Ls)∧(I (aj IntKind.i64 (i+1))=I j∧ag (I j)=true)∧True)∧((true=true∧some 0=some 0∧0=0∧k=k∧7=7)∧True)∧(es=es∧ae es=true)∧True)∧N) (IO Ls es Q i k s)):=by kernel_rfl
theorem Vx (s n:List UInt8) (a t y q:Int) (D K Ls es es':List AV) (i j:Int) (k k':Nat) (N:Prop) (Q:AExit→St→Prop):aP prog opts0 40 (IM D K a q t y n) (aJ prog 17 5) (fb s i k Ls es).st (cb 0 [(0,18)] (fb s j k' Ls es') N [(0,0)] (fb s i k Ls es) Q)=
 (ac (ay i (Int.ofNat (ab Ls))) (aF prog 43 (.fsl false Ls) (I i)=some (.fptr (iW D K a q t y n) 0)∧aE prog BinOp.eql 9 (Operand.tmp 20) (Operand.tmp 21) (.str n) (.str s)=some (.bool true)∧aF prog 43 (.fsl false Ls) (I i)=some (.fptr (iW D K a q t y n) 0)∧aw (a7 7 [AV.agg (iW D K a q t y n)]&&(((k+ab [AV.agg (iW D K a q t y n)])*96).ble 140737488355328&&(bq (flat [AV.agg (iW D K a q t y n)])&&true))) (aw ((ab es).beq (k*7)) ((((lY s)∧(lX Ls)∧(I (aj IntKind.i64 (i+1))=I j∧ag (I j)=true)∧True)∧((true=true∧some 18=some 18∧0=0∧k'=k+ab [AV.agg (iW D K a q t y n)]∧7=7)∧True)∧(es++flat [AV.agg (iW D K a q t y n)]=es'∧ae es'=true)∧True)∧N))) (IO Ls es Q i k s)):=by kernel_rfl
def IQ (s:List UInt8) (n:Int) (Ls:List AV):bV:=fun st Q=>dr 0 [] (fJ s 0 Ls) st∧Q (.exit 0) (fJ s n Ls).st
def IR (s:List UInt8) (n:Int) (k:Nat) (Ls es:List AV):bV:=fun st Q=>dr 0 [] (fJ s 0 Ls) st∧Q (.exit 0) (fb s n k Ls es).st
theorem Vy (s:List UInt8) (n:Int) (Ls:List AV) (o:Ob) (M N L C:AV) (Q:AV→ah→Prop):aH prog opts0 40 (aB [] [(5,IQ s n Ls)] (bP [(45,.fsl false Ls)]) [] []) 17 [.agg (aa o M N L C),.str s] [] 0 (fun v H _=>Q v H)=
 (SC 45 [AV.agg (aa o M N L C)] (.fsl false Ls)∧(((lY s)∧ub∧(lX Ls)∧(I 0=I 0∧true=true)∧True)∧True∧True)∧Q AV.nilsl []):=by kernel_rfl
theorem Vz (s:List UInt8) (n:Int) (k:Nat) (Ls es:List AV) (o:Ob) (M N L C:AV) (Q:AV→ah→Prop):aH prog opts0 40 (aB [] [(5,IR s n k Ls es)] (bP [(45,.fsl false Ls)]) [] []) 17 [.agg (aa o M N L C),.str s] [] 0 (fun v H _=>Q v H)=
 (SC 45 [AV.agg (aa o M N L C)] (.fsl false Ls)∧(((lY s)∧ub∧(lX Ls)∧(I 0=I 0∧true=true)∧True)∧True∧True)∧Q (.rsl true 0 0 k 7) [(0,some (Blk.cells es))]):=by kernel_rfl
end
set_option maxRecDepth 20000
theorem VA (a b:Tmp) (x y:List UInt8):aE prog .eql 9 (.tmp a) (.tmp b) (.str x) (.str y)=some (.bool (aI x y)):=by kernel_rfl
theorem IU {f:Bool} {l:List At} {i:Nat} {s:List UInt8} {k t y n:Int} {d:List UInt8} {ks:List It} (hx:l[i]? =some ⟨s,k,.mk t y n d ks⟩):aF prog 43 (.fsl f (l.map aK)) (.int .i64 (.ofNat i))=some (.fptr (.str s::I k::am t y n (ak d) (ap ks)) 0):=
 gC (v:=aK ⟨s,k,.mk t y n d ks⟩) (e:=39) (sz:=7) (by kernel_rfl) (by kernel_rfl) (by rw[List.getElem?_map,hx];rfl) rfl
noncomputable def IV (s:List UInt8) (i:Int) (Ls:List AV):List At→View
 |[]=>fJ s i Ls
 |a::r=>fb s i (r.length+1) Ls (flat ((a::r).map aK))
theorem VB (s:List UInt8) (l:List At) (a:At):eR s (l++[a])=eR s l++(match aI a.name s with|true=>[a]|false=>[]):=by
 unfold eR;rw[List.filter_append,List.filter_cons];cases aI a.name s<;>rfl
theorem VC {s:List UInt8} {L:List At} {Q:AExit→St→Prop} (hb:L.length≤90000) (hq:Q (.exit 0) (IV s (.ofNat L.length) (L.map aK) (eR s L)).st):
  ∀m i:Nat,i+m=L.length→ALp prog opts0.glob 0 (aJ prog 17 5) (IV s (.ofNat i) (L.map aK) (eR s (L.take i))).st Q:=by
 have hL:=oZ L;have hlen:ab (L.map aK)=L.length:=by rw[aM,List.length_map]
 intro m
 induction m with
 | zero=>
  intro i hi;rw[Nat.add_zero] at hi;subst hi;rw[List.take_of_length_le (Nat.le_refl _)];revert hq;generalize eR s L=out;intro hq;have hno:ay (Int.ofNat L.length) (Int.ofNat (ab (L.map aK)))=true→False:=fun e=>nr (hlen▸e)
  match out,hq with
  |[],hq=>
   refine ALp.round (A:=aB [(6,2,.res (.fptr (.str []::I 0::am 0 0 0 [] []) 0)),(6,6,.res (.bool false))] [] aR [] []) (V2:=fJ s 0 (L.map aK)) (F:=fJ s (.ofNat L.length) (L.map aK)) (lk:=[]) (lk':=[]) base0 ar (LsOk.no rfl) .refl ?_;show aP prog opts0 40 _ _ (fJ s (.ofNat L.length) (L.map aK)).st _;rw[IL];exact ai (fun e=>(hno e).elim) fun _=>⟨⟨⟨rflTwoQ,rflTwoQ,⟨rfl,hL⟩,rflTwoQ,ad⟩,trivial,ad⟩,hq⟩
  |a::r,hq=>
   have hc:=tH (a::r);refine ALp.round (A:=aB [(6,2,.res (.fptr (.str []::I 0::am 0 0 0 [] []) 0)),(6,6,.res (.bool false))] [] aR [] []) (V2:=fb s 0 (r.length+1) (L.map aK) (flat ((a::r).map aK))) (F:=fb s (.ofNat L.length) (r.length+1) (L.map aK) (flat ((a::r).map aK))) (lk:=[(0,0)]) (lk':=[(0,0)]) base0 ar (LsOk.no rfl) .refl ?_;show aP prog opts0 40 _ _ (fb s (.ofNat L.length) (r.length+1) (L.map aK) (flat ((a::r).map aK))).st _;rw[IP];exact ai (fun e=>(hno e).elim) fun _=>⟨⟨⟨rflTwoQ,⟨rfl,hL⟩,rflTwoQ,ad⟩,⟨⟨rfl,rfl,rfl,rfl,rfl⟩,ad⟩,⟨rfl,hc⟩,ad⟩,hq⟩
 | succ m ih=>
  intro i hi;have hlt:i<L.length:=by omega
  have g:=List.getElem?_eq_getElem hlt;have ih:=ih (i+1) (by omega);rw[iR g,VB] at ih;have htl:(eR s (L.take i)).length≤90000:=by
   have h1:=List.length_filter_le (fun a:At=>aI a.name s) (L.take i);have h2:(L.take i).length≤L.length:=List.length_take_le' i L;exact Nat.le_trans h1 (Nat.le_trans h2 hb)
  revert g ih htl;generalize L[i]=a;generalize eR s (L.take i)=out;obtain ⟨n,idx,⟨t,y,q,d,ks⟩⟩:=a;intro g ih htl;have gx:=IU (f:=false) g;have hw:=dA (p:=i) (by omega);have hyes:∀e:ay (Int.ofNat i) (Int.ofNat (ab (L.map aK)))=false,False:=fun e=>gL hlt (hlen▸e);have he:=VA 20 21 n s;simp only at ih;cases hx:aI n s with
  | false=>
   rw[hx] at ih he;rw[List.append_nil] at ih
   match out,ih with
   |[],ih=>
    refine ALp.round (A:=aB [(6,2,.res (.fptr (.str n::I idx::am t y q (ak d) (ap ks)) 0)),(6,6,.res (.bool false))] [] aR [] []) (V2:=fJ s (.ofNat (i+1)) (L.map aK)) (F:=fJ s (.ofNat i) (L.map aK)) (lk:=[]) (lk':=[]) base0 ar (LsOk.no rfl) .refl ?_;show aP prog opts0 40 _ _ (fJ s (.ofNat i) (L.map aK)).st _;rw[IL,hw];exact ai (fun _=>⟨gx,he,⟨⟨rflTwoQ,rflTwoQ,⟨rfl,hL⟩,rflTwoQ,ad⟩,trivial,ad⟩,ih⟩) fun e=>(hyes e).elim
   |b::r,ih=>
    have hc:=tH (b::r);refine ALp.round (A:=aB [(6,2,.res (.fptr (.str n::I idx::am t y q (ak d) (ap ks)) 0)),(6,6,.res (.bool false))] [] aR [] []) (V2:=fb s (.ofNat (i+1)) (r.length+1) (L.map aK) (flat ((b::r).map aK))) (F:=fb s (.ofNat i) (r.length+1) (L.map aK) (flat ((b::r).map aK))) (lk:=[(0,0)]) (lk':=[(0,0)]) base0 ar (LsOk.no rfl) .refl ?_;show aP prog opts0 40 _ _ (fb s (.ofNat i) (r.length+1) (L.map aK) (flat ((b::r).map aK))).st _;rw[IP,hw];exact ai (fun _=>⟨gx,he,⟨⟨rflTwoQ,⟨rfl,hL⟩,rflTwoQ,ad⟩,⟨⟨rfl,rfl,rfl,rfl,rfl⟩,ad⟩,⟨rfl,hc⟩,ad⟩,ih⟩) fun e=>(hyes e).elim
  | true=>
   rw[hx] at ih he
   match out,ih,htl with
   |[],ih,_=>
    have hc:=tH [⟨n,idx,.mk t y q d ks⟩];refine ALp.round (A:=aB [(6,2,.res (.fptr (.str n::I idx::am t y q (ak d) (ap ks)) 0)),(6,6,.res (.bool true)),(7,3,.res (.fptr (.str n::I idx::am t y q (ak d) (ap ks)) 0))] [] aR [] []) (V2:=fb s (.ofNat (i+1)) 1 (L.map aK) (flat ([(⟨n,idx,.mk t y q d ks⟩:At)].map aK))) (F:=fJ s (.ofNat i) (L.map aK)) (lk:=[(0,17)]) (lk':=[]) base0 ar (LsOk.no rfl) .refl ?_;show aP prog opts0 40 _ _ (fJ s (.ofNat i) (L.map aK)).st _;rw[Vw,hw];exact ai (fun _=>⟨gx,he,gx,⟨⟨rflTwoQ,⟨rfl,hL⟩,rflTwoQ,ad⟩,⟨⟨rfl,rfl,rfl,rfl,rfl⟩,ad⟩,⟨rfl,hc⟩,ad⟩,ih⟩) fun e=>(hyes e).elim
   |b::r,ih,htl=>
    have e1:flat ((b::r++[(⟨n,idx,.mk t y q d ks⟩:At)]).map aK)=flat ((b::r).map aK)++flat [.agg [.str n,I idx,I t,I y,I q,.fsl false (ak d),.fsl false (ap ks)]]:=by rw[List.map_append,ea];rfl
    have e2:(r++[(⟨n,idx,.mk t y q d ks⟩:At)]).length+1=r.length+1+1:=by rw[List.length_append];rfl
    have hc:=tH (b::r++[(⟨n,idx,.mk t y q d ks⟩:At)]);have hfl:=pP (b::r);have ih:ALp prog opts0.glob 0 (aJ prog 17 5) (fb s (.ofNat (i+1)) ((r++[(⟨n,idx,.mk t y q d ks⟩:At)]).length+1) (L.map aK) (flat ((b::r++[(⟨n,idx,.mk t y q d ks⟩:At)]).map aK))).st Q:=ih;rw[e1] at ih hc;rw[e2] at ih;rw[lConQ] at htl hfl;refine ALp.round (A:=aB [(6,2,.res (.fptr (.str n::I idx::am t y q (ak d) (ap ks)) 0)),(6,6,.res (.bool true)),(7,3,.res (.fptr (.str n::I idx::am t y q (ak d) (ap ks)) 0))] [] aR [] []) (V2:=fb s (.ofNat (i+1)) (r.length+1+1) (L.map aK) (flat ((b::r).map aK)++flat [.agg [.str n,I idx,I t,I y,I q,.fsl false (ak d),.fsl false (ap ks)]])) (F:=fb s (.ofNat i) (r.length+1) (L.map aK) (flat ((b::r).map aK))) (lk:=[(0,18)]) (lk':=[(0,0)]) base0 ar (LsOk.no rfl) .refl ?_;show aP prog opts0 40 _ _ (fb s (.ofNat i) (r.length+1) (L.map aK) (flat ((b::r).map aK))).st _;rw[Vx,hw];refine ai (fun _=>⟨gx,he,gx,aD ?_ (aD (fI hfl) ⟨⟨⟨rflTwoQ,⟨rfl,hL⟩,rflTwoQ,ad⟩,⟨⟨rfl,rfl,rfl,rfl,rfl⟩,ad⟩,⟨rfl,hc⟩,ad⟩,ih⟩)⟩) fun e=>(hyes e).elim;simp[a7,bq,flat,AV.cells,ab];omega
theorem IW:bW (dI prog 17) 5=[aJ prog 17 5]:=by kernel_rfl
theorem w5 {o:Ob} (ho:cI o) (hb:(gq o).length≤90000) (s:List UInt8):SC 17 [au o,.str s] (.fsl false ((eR s (gq o)).map aK)):=by
 have hall:=Vv ho;have hcl:=cS o (c:=[.str s]) rfl;have hL:=oZ (gq o);have hrun:=fun Q hq=>VC (s:=s) (Q:=Q) hb hq (gq o).length 0 (Nat.zero_add _);rw[List.take_zero] at hrun;revert hrun hall hL;generalize gq o=L;intro hall hL hrun;cases hout:eR s L with
 | nil=>
  rw[hout] at hrun;refine dg (A:=aB [] [(5,IQ s (.ofNat L.length) (L.map aK))] (bP [(45,.fsl false (L.map aK))]) [] []) base0 ar
   (aG (LsOk.at1 rfl IW fun st Q hs=> .seen base0.glob hs.1 (hrun Q hs.2))) hcl ?_
  unfold au ax at*
  rw[Vy];exact ⟨hall,⟨⟨rflTwoQ,rflTwoQ,⟨rfl,hL⟩,rflTwoQ,ad⟩,trivial,ad⟩,.nilsl,(Frz.closed _ rfl).out,rfl,.nil⟩
 | cons a r=>
  rw[hout] at hrun;refine dg (A:=aB [] [(5,IR s (.ofNat L.length) (r.length+1) (L.map aK) (flat ((a::r).map aK)))] (bP [(45,.fsl false (L.map aK))]) [] []) base0 ar
   (aG (LsOk.at1 rfl IW fun st Q hs=> .seen base0.glob hs.1 (hrun Q hs.2))) hcl ?_
  unfold au ax at*
  rw[Vz];exact ⟨hall,⟨⟨rflTwoQ,rflTwoQ,⟨rfl,hL⟩,rflTwoQ,ad⟩,trivial,ad⟩,.fsl false ((a::r).map aK),(Frz.row rfl rfl rfl (by rw[List.length_map];rfl) (fun e he=>by obtain ⟨a,_,rfl⟩:=List.mem_map.1 he;exact SM a) (oZ _)).out,jO (oZ _),.refl _⟩
end Go.Proofs.YtjhggnebkfpgcaaGreatDoor
