import Derived.Test.YtjhggnebkfpgcaaGreatDoorQ3
import Derived.KernelRfl
import Derived.Test.YtjhggnebkfpgcaaGreatDoorQ2
import Derived.Test.YtjhggnebkfpgcaaGreatDoorQ1
import Derived.Test.YtjhggnebkfpgcaaGreatDoorG5
namespace Go.Proofs.YtjhggnebkfpgcaaGreatDoor
open Go Go.RowKit
open Go.Proofs.Abs
def bv (id w:Nat):Nat→AV
 |0=> .nilsl
 |k+1=> .rsl true id 0 (k+1) w
def nb (l:List AV):Nat→Option Blk
 |0=>none
 |_+1=>some (.cells l)
theorem pE (id w:Nat):∀n,Rv id (bv id w n)
 |0=>fun _ _=> .same _ rfl
 |_+1=>fun _ h=> .rsl _ _ _ _ _ _ h
theorem pF {l:List AV} (h:ad l=true):∀n,ai (nb l n)
 |0=>⟨trivial⟩
 |_+1=>⟨h⟩
noncomputable def lK (i:Nat) (Rs:List AV) (M:AV) (o:Ob) (N:List (List UInt8)) (L:List Lk) (C:List Cu):St:=aE (oW (.ofNat i) Rs (aa o M (bv 1 1 N.length) (bv 2 2 L.length) (bv 3 2 C.length)) []) [(1,nb (N.map .str) N.length),(2,nb (flat (L.map bE)) L.length),(3,nb (flat (C.map aT)) C.length)]
structure OxZ (o:Ob):Prop where
 d:∀k,(b9 o k).has=false→(b9 o k).t=0
 l:o.lh=false→o.lt=0∧o.lc=0∧o.lu=0
theorem Sj (o:Ob) (x:Dt) (d k:Nat):b9 (aO o x d) k=x∨b9 (aO o x d) k=b9 o k:=by
 unfold aO b9
 split<;>split<;>simp
theorem OxZ.date {o:Ob} (h:OxZ o) (t:Int) (d:Nat):OxZ (aO o ⟨true,t⟩ d):=⟨fun k hk=>by
 rcases Sj o ⟨true,t⟩ d k with e|e
 ·rw[e] at hk;cases hk
 ·rw[e] at hk⊢;exact h.d k hk,by
 unfold aO
 split<;>exact h.l⟩
theorem sL {o p:Ob} (h0:p.d0=o.d0) (h1:p.d1=o.d1) (h2:p.d2=o.d2) (h3:p.d3=o.d3) (h4:p.d4=o.d4) (h5:p.d5=o.d5) (h6:p.d6=o.d6) (h7:p.d7=o.d7) (h8:p.d8=o.d8) (h9:p.d9=o.d9) (k:Nat):b9 p k=b9 o k:=by
 unfold b9
 split<;>assumption
theorem OxZ.of {o p:Ob} (h:OxZ o) (hd:∀k,b9 p k=b9 o k) (hl:p.lh=false→p.lt=0∧p.lc=0∧p.lu=0):OxZ p:=⟨fun k=>by rw[hd];exact h.d k,hl⟩
structure OxI (n:Nat) (o:Ob) (N:List (List UInt8)) (L:List Lk) (C:List Cu):Prop where
 n1:∀s∈N,s∈nmL
 n2:N.Nodup
 l1:L.length≤n
 l2:L.Nodup
 l3:∀x∈L,x.id∈idL
 c1:C.length≤6
 c2:C.Nodup
 c3:∀x∈C,x.name∈cnL∧x.text∈ctL
 id:o.id∈idL
 msg:o.msg∈msL
 dat:o.d0.has=true
 z:OxZ o
theorem Gf {α:Type} [DecidableEq α]:∀ (l m:List α),l.Nodup→(∀x∈l,x∈m)→l.length≤m.length
 |[],_,_,_=>Nat.zero_le _
 |a::t,m,h,hs=>by
  have h:=List.nodup_cons.1 h
  have ha:=hs a (by simp)
  have:=Gf t (m.erase a) h.2 fun x hx=>(List.mem_erase_of_ne (fun e=>by subst e;exact h.1 hx)).2 (hs x (by simp[hx]))
  rw[List.length_erase_of_mem ha] at this
  have:=List.length_pos_of_mem ha
  simp only[List.length_cons]
  omega
theorem OxI.names {n:Nat} {o:Ob} {N:List (List UInt8)} {L:List Lk} {C:List Cu} (h:OxI n o N L C):N.length≤5:=Gf N nmL h.n2 h.n1
theorem Sk {l:List (List UInt8)} {s:List UInt8} (h:kw l s=false):s∉l:=fun hm=>by
 have:kw l s=true:=List.any_eq_true.2 ⟨s,hm,beqBytes_iff.2 rfl⟩
 rw[this] at h;cases h
theorem Sl {l:List Lk} {x:Lk} (h:lI x l=false):x∉l:=fun hm=>by
 have:lI x l=true:=List.any_eq_true.2 ⟨x,hm,by simp[vo,beqInt_iff,beqBytes_iff]⟩
 rw[this] at h;cases h
theorem Sm {l:List Cu} {x:Cu} (h:kx x l=false):x∉l:=fun hm=>by
 have:kx x l=true:=List.any_eq_true.2 ⟨x,hm,by simp[vp,beqBytes_iff]⟩
 rw[this] at h;cases h
theorem Ak {α:Type} {l:List α} {x:α} (h:l.Nodup) (hx:x∉l):(l++[x]).Nodup:=by
 rw[List.nodup_append]
 refine ⟨h,by simp,fun a ha b hb=> ?_⟩
 rw[List.mem_singleton] at hb
 subst hb
 intro e
 subst e
 exact hx ha
theorem pG {α:Type} {l:List α} {x:α} {p:α→Prop} (h:∀y∈l,p y) (hx:p x):∀y∈l++[x],p y:=fun y hy=>by
 rcases List.mem_append.1 hy with hy|hy
 ·exact h y hy
 ·rw[List.mem_singleton] at hy;subst hy;exact hx
theorem OxI.more {n:Nat} {o:Ob} {N:List (List UInt8)} {L:List Lk} {C:List Cu} (h:OxI n o N L C):OxI (n+1) o N L C:=⟨h.n1,h.n2,Nat.le_succ_of_le h.l1,h.l2,h.l3,h.c1,h.c2,h.c3,h.id,h.msg,h.dat,h.z⟩
theorem OxI.date {n:Nat} {o:Ob} {N:List (List UInt8)} {L:List Lk} {C:List Cu} (h:OxI n o N L C) (t:Int):∀d,OxI (n+1) (aO o ⟨true,t⟩ d) N L C
 |0=>⟨h.n1,h.n2,Nat.le_succ_of_le h.l1,h.l2,h.l3,h.c1,h.c2,h.c3,h.id,h.msg,rfl,h.z.date t 0⟩
 |1=>⟨h.n1,h.n2,Nat.le_succ_of_le h.l1,h.l2,h.l3,h.c1,h.c2,h.c3,h.id,h.msg,h.dat,h.z.date t 1⟩
 |2=>⟨h.n1,h.n2,Nat.le_succ_of_le h.l1,h.l2,h.l3,h.c1,h.c2,h.c3,h.id,h.msg,h.dat,h.z.date t 2⟩
 |3=>⟨h.n1,h.n2,Nat.le_succ_of_le h.l1,h.l2,h.l3,h.c1,h.c2,h.c3,h.id,h.msg,h.dat,h.z.date t 3⟩
 |4=>⟨h.n1,h.n2,Nat.le_succ_of_le h.l1,h.l2,h.l3,h.c1,h.c2,h.c3,h.id,h.msg,h.dat,h.z.date t 4⟩
 |5=>⟨h.n1,h.n2,Nat.le_succ_of_le h.l1,h.l2,h.l3,h.c1,h.c2,h.c3,h.id,h.msg,h.dat,h.z.date t 5⟩
 |6=>⟨h.n1,h.n2,Nat.le_succ_of_le h.l1,h.l2,h.l3,h.c1,h.c2,h.c3,h.id,h.msg,h.dat,h.z.date t 6⟩
 |7=>⟨h.n1,h.n2,Nat.le_succ_of_le h.l1,h.l2,h.l3,h.c1,h.c2,h.c3,h.id,h.msg,h.dat,h.z.date t 7⟩
 |8=>⟨h.n1,h.n2,Nat.le_succ_of_le h.l1,h.l2,h.l3,h.c1,h.c2,h.c3,h.id,h.msg,h.dat,h.z.date t 8⟩
 |9=>⟨h.n1,h.n2,Nat.le_succ_of_le h.l1,h.l2,h.l3,h.c1,h.c2,h.c3,h.id,h.msg,h.dat,h.z.date t 9⟩
 |_+10=>⟨h.n1,h.n2,Nat.le_succ_of_le h.l1,h.l2,h.l3,h.c1,h.c2,h.c3,h.id,h.msg,h.dat,h.z.date t _⟩
theorem fw {S S2:St} {Q:AExit→St→Prop} {b:Code} (h:ALp Tryz.prog opts0.glob 0 b S2 Q) (h1:S2.slots=S.slots) (h2:∀i b,hget S2.heap i=some b→hget S.heap i=some b) (h3:S2.nx=S.nx) (h4:S2.n=S.n):ALp Tryz.prog opts0.glob 0 b S Q:=h.says (.sub h1 h2 h3 h4)
theorem Sn {l:List Rw} {i:Nat} {y:Rw} {M:AV} (hy:l[i]? =some y) (hi:i<10) (hM:ac M=true) {o:Ob} {N:List (List UInt8)} {L:List Lk} {C:List Cu} (h:OxI i o N L C):∃o' N' L' C',OxI (i+1) o' N' L' C'∧bU (lK i (l.map aJ) M o N L C) (lK (i+1) (l.map aJ) M o' N' L' C'):=by
 have g:=Ri hy hi
 have rN:=pE 1 1 N.length
 have rL:=pE 2 2 L.length
 have rC:=pE 3 2 C.length
 have bn:=pF (ea N) N.length
 have bl:=pF (lH L) L.length
 have bc:=pF (jI C) C.length
 obtain ⟨k,hk,hlt⟩:=pe (n:=y.k) (m:=9) (by decide)
 obtain ⟨d,hd,hdlt⟩:=pe (n:=y.a) (m:=10) (by decide)
 match k,hk,hlt with
 |0,hk,_=>
  match d,hd,hdlt with
  |0,hd,_=>exact ⟨_,N,L,C,h.date (y.b%60) 0,Rj o g hM rN rL rC bn bl bc hk hd⟩
  |1,hd,_=>exact ⟨_,N,L,C,h.date (y.b%60) 1,Rk o g hM rN rL rC bn bl bc hk hd⟩
  |2,hd,_=>exact ⟨_,N,L,C,h.date (y.b%60) 2,Rl o g hM rN rL rC bn bl bc hk hd⟩
  |3,hd,_=>exact ⟨_,N,L,C,h.date (y.b%60) 3,Rm o g hM rN rL rC bn bl bc hk hd⟩
  |4,hd,_=>exact ⟨_,N,L,C,h.date (y.b%60) 4,Rn o g hM rN rL rC bn bl bc hk hd⟩
  |5,hd,_=>exact ⟨_,N,L,C,h.date (y.b%60) 5,Ro o g hM rN rL rC bn bl bc hk hd⟩
  |6,hd,_=>exact ⟨_,N,L,C,h.date (y.b%60) 6,Rp o g hM rN rL rC bn bl bc hk hd⟩
  |7,hd,_=>exact ⟨_,N,L,C,h.date (y.b%60) 7,Rq o g hM rN rL rC bn bl bc hk hd⟩
  |8,hd,_=>exact ⟨_,N,L,C,h.date (y.b%60) 8,Rr o g hM rN rL rC bn bl bc hk hd⟩
  |9,hd,_=>exact ⟨_,N,L,C,h.date (y.b%60) 9,Rt o g hM rN rL rC bn bl bc hk hd⟩
  |_+10,_,hdlt=>exact absurd hdlt (by omega)
 |1,hk,_=>
  match d,hd,hdlt with
  |0,hd,_=>exact ⟨_,N,L,C,h.date (y.b%60) 0,Ru o g hM rN rL rC bn bl bc hk hd⟩
  |1,hd,_=>exact ⟨_,N,L,C,h.date (y.b%60) 1,Rx o g hM rN rL rC bn bl bc hk hd⟩
  |2,hd,_=>exact ⟨_,N,L,C,h.date (y.b%60) 2,Ry o g hM rN rL rC bn bl bc hk hd⟩
  |3,hd,_=>exact ⟨_,N,L,C,h.date (y.b%60) 3,Rz o g hM rN rL rC bn bl bc hk hd⟩
  |4,hd,_=>exact ⟨_,N,L,C,h.date (y.b%60) 4,RA o g hM rN rL rC bn bl bc hk hd⟩
  |5,hd,_=>exact ⟨_,N,L,C,h.date (y.b%60) 5,RB o g hM rN rL rC bn bl bc hk hd⟩
  |6,hd,_=>exact ⟨_,N,L,C,h.date (y.b%60) 6,RC o g hM rN rL rC bn bl bc hk hd⟩
  |7,hd,_=>exact ⟨_,N,L,C,h.date (y.b%60) 7,RD o g hM rN rL rC bn bl bc hk hd⟩
  |8,hd,_=>exact ⟨_,N,L,C,h.date (y.b%60) 8,RE o g hM rN rL rC bn bl bc hk hd⟩
  |9,hd,_=>exact ⟨_,N,L,C,h.date (y.b%60) 9,RF o g hM rN rL rC bn bl bc hk hd⟩
  |_+10,_,hdlt=>exact absurd hdlt (by omega)
 |2,hk,_=>
  match d,hd,hdlt with
  |0,hd,_=>exact ⟨_,N,L,C,h.date (y.b%60) 0,RG o g hM rN rL rC bn bl bc hk hd⟩
  |1,hd,_=>exact ⟨_,N,L,C,h.date (y.b%60) 1,RH o g hM rN rL rC bn bl bc hk hd⟩
  |2,hd,_=>exact ⟨_,N,L,C,h.date (y.b%60) 2,RI o g hM rN rL rC bn bl bc hk hd⟩
  |3,hd,_=>exact ⟨_,N,L,C,h.date (y.b%60) 3,RJ o g hM rN rL rC bn bl bc hk hd⟩
  |4,hd,_=>exact ⟨_,N,L,C,h.date (y.b%60) 4,RK o g hM rN rL rC bn bl bc hk hd⟩
  |5,hd,_=>exact ⟨_,N,L,C,h.date (y.b%60) 5,RL o g hM rN rL rC bn bl bc hk hd⟩
  |6,hd,_=>exact ⟨_,N,L,C,h.date (y.b%60) 6,RN o g hM rN rL rC bn bl bc hk hd⟩
  |7,hd,_=>exact ⟨_,N,L,C,h.date (y.b%60) 7,RO o g hM rN rL rC bn bl bc hk hd⟩
  |8,hd,_=>exact ⟨_,N,L,C,h.date (y.b%60) 8,RP o g hM rN rL rC bn bl bc hk hd⟩
  |9,hd,_=>exact ⟨_,N,L,C,h.date (y.b%60) 9,RQ o g hM rN rL rC bn bl bc hk hd⟩
  |_+10,_,hdlt=>exact absurd hdlt (by omega)
 | 3,hk,_=>
  match N,h,bn with
  |[],h,_=>
   refine ⟨o,[aD nmL [] y.a],L,C,⟨pG (l:=[]) (fun _ h=>by cases h) (ig _ _ _ (by decide)),by simp,Nat.le_succ_of_le h.l1,h.l2,h.l3,h.c1,h.c2,h.c3,h.id,h.msg,h.dat,h.z⟩,fun Q hq=> ?_⟩
   exact fw (RW o g hM rL rC bl bc hk Q hq) rfl (fun i b h=>match i,h with|0,h=>h|1,h=>h|2,h=>h|3,h=>h|4,h=>h|_+5,h=>h) rfl rfl
  | s::N,h,_=>
   have hl:=h.names
   cases hin:kw (s::N) (aD nmL [] y.a) with
   |true=>exact ⟨o,s::N,L,C,h.more,fun Q hq=>RX o g hM rL rC bl bc hk (l:=s::N) (by omega) hin Q hq⟩
   |false=>
    refine ⟨o,s::N++[aD nmL [] y.a],L,C,⟨pG h.n1 (ig _ _ _ (by decide)),Ak h.n2 (Sk hin),Nat.le_succ_of_le h.l1,h.l2,h.l3,h.c1,h.c2,h.c3,h.id,h.msg,h.dat,h.z⟩,fun Q hq=> ?_⟩
    refine RY o g hM rL rC bl bc hk (l:=s::N) (by omega) hin Q ?_
    have e1:(s::N++[aD nmL [] y.a]).length=(s::N).length+1:=by simp
    have e2:(s::N++[aD nmL [] y.a]).map AV.str=(s::N).map .str++[.str (aD nmL [] y.a)]:=by simp
    unfold lK at hq
    rw[e1,e2] at hq
    exact hq
 | 4,hk,_=>
  match L,h,bl with
  |[],h,_=>
   refine ⟨o,N,[jJ y],C,⟨h.n1,h.n2,by simp,by simp,pG (l:=[]) (fun _ h=>by cases h) (ig idL _ _ (by decide)),h.c1,h.c2,h.c3,h.id,h.msg,h.dat,h.z⟩,fun Q hq=> ?_⟩
   exact fw (R0 o g hM rN rC bn bc hk Q (fw hq rfl (fun i b h=>match i,h with|0,h=>h|1,h=>h|2,h=>h|3,h=>h|4,h=>h|_+5,h=>h) rfl rfl)) rfl (fun i b h=>match i,h with|0,h=>h|1,h=>h|2,h=>h|3,h=>h|4,h=>h|_+5,h=>h) rfl rfl
  | s::L,h,_=>
   have hl:=h.l1
   cases hin:lI (jJ y) (s::L) with
   |true=>exact ⟨o,N,s::L,C,h.more,fun Q hq=>fw (R4 o g hM rN rC bn bc hk (l:=s::L) (by omega) hin Q (fw hq rfl (fun i b h=>match i,h with|0,h=>h|1,h=>h|2,h=>h|3,h=>h|4,h=>h|_+5,h=>h) rfl rfl)) rfl (fun i b h=>match i,h with|0,h=>h|1,h=>h|2,h=>h|3,h=>h|4,h=>h|_+5,h=>h) rfl rfl⟩
   |false=>
    refine ⟨o,N,s::L++[jJ y],C,⟨h.n1,h.n2,by simp only[List.length_append,List.length_singleton];omega,Ak h.l2 (Sl hin),pG h.l3 (ig idL _ _ (by decide)),h.c1,h.c2,h.c3,h.id,h.msg,h.dat,h.z⟩,fun Q hq=> ?_⟩
    have e1:(s::L++[jJ y]).length=(s::L).length+1:=by simp
    have e2:flat ((s::L++[jJ y]).map bE)=flat ((s::L).map bE)++[I (af .i64 (101+y.a%5)),.str (aD idL [] y.b)]:=by rw[List.map_append,gv];rfl
    unfold lK at hq
    rw[e1,e2] at hq
    exact fw (R5 o g hM rN rC bn bc hk (l:=s::L) (by omega) hin Q (fw hq rfl (fun i b h=>match i,h with|0,h=>h|1,h=>h|2,h=>h|3,h=>h|4,h=>h|_+5,h=>h) rfl rfl)) rfl (fun i b h=>match i,h with|0,h=>h|1,h=>h|2,h=>h|3,h=>h|4,h=>h|_+5,h=>h) rfl rfl
 |5,hk,_=>exact ⟨vl o y,N,L,C,⟨h.n1,h.n2,Nat.le_succ_of_le h.l1,h.l2,h.l3,h.c1,h.c2,h.c3,h.id,h.msg,h.dat,h.z.of (sL rfl rfl rfl rfl rfl rfl rfl rfl rfl rfl) fun h=>by cases h⟩,RS o g hM rN rL rC bn bl bc hk⟩
 | 6,hk,_=>
  match C,h,bc with
  |[],h,_=>
   refine ⟨o,N,L,[iq y],⟨h.n1,h.n2,Nat.le_succ_of_le h.l1,h.l2,h.l3,by simp,by simp,pG (l:=[]) (fun _ h=>by cases h) ⟨ig cnL _ _ (by decide),ig ctL _ _ (by decide)⟩,h.id,h.msg,h.dat,h.z⟩,fun Q hq=> ?_⟩
   exact fw (R7 o g hM rN rL bn bl hk Q (fw hq rfl (fun i b h=>match i,h with|0,h=>h|1,h=>h|2,h=>h|3,h=>h|4,h=>h|_+5,h=>h) rfl rfl)) rfl (fun i b h=>match i,h with|0,h=>h|1,h=>h|2,h=>h|3,h=>h|4,h=>h|_+5,h=>h) rfl rfl
  | s::C,h,_=>
   have hl:=h.c1
   cases hin:kx (iq y) (s::C) with
   |true=>exact ⟨o,N,L,s::C,h.more,fun Q hq=>fw (R8 o g hM rN rL bn bl hk (l:=s::C) (by omega) hin Q (fw hq rfl (fun i b h=>match i,h with|0,h=>h|1,h=>h|2,h=>h|3,h=>h|4,h=>h|_+5,h=>h) rfl rfl)) rfl (fun i b h=>match i,h with|0,h=>h|1,h=>h|2,h=>h|3,h=>h|4,h=>h|_+5,h=>h) rfl rfl⟩
   | false=>
    by_cases h6:(s::C).length<6
    ·refine ⟨o,N,L,s::C++[iq y],⟨h.n1,h.n2,Nat.le_succ_of_le h.l1,h.l2,h.l3,by simp only[List.length_append,List.length_singleton];omega,Ak h.c2 (Sm hin),pG h.c3 ⟨ig cnL _ _ (by decide),ig ctL _ _ (by decide)⟩,h.id,h.msg,h.dat,h.z⟩,fun Q hq=> ?_⟩
     have e1:(s::C++[iq y]).length=(s::C).length+1:=by simp
     have e2:flat ((s::C++[iq y]).map aT)=flat ((s::C).map aT)++[.str (aD cnL [] y.a),.str (aD ctL [] y.b)]:=by rw[List.map_append,gv];rfl
     unfold lK at hq
     rw[e1,e2] at hq
     exact fw (R9 o g hM rN rL bn bl hk (l:=s::C) (by omega) hin h6 Q (fw hq rfl (fun i b h=>match i,h with|0,h=>h|1,h=>h|2,h=>h|3,h=>h|4,h=>h|_+5,h=>h) rfl rfl)) rfl (fun i b h=>match i,h with|0,h=>h|1,h=>h|2,h=>h|3,h=>h|4,h=>h|_+5,h=>h) rfl rfl
    ·exact ⟨o,N,L,s::C,h.more,fun Q hq=>fw (Sa o g hM rN rL bn bl hk (l:=s::C) (by omega) hin (by omega) Q (fw hq rfl (fun i b h=>match i,h with|0,h=>h|1,h=>h|2,h=>h|3,h=>h|4,h=>h|_+5,h=>h) rfl rfl)) rfl (fun i b h=>match i,h with|0,h=>h|1,h=>h|2,h=>h|3,h=>h|4,h=>h|_+5,h=>h) rfl rfl⟩
 |7,hk,_=>exact ⟨vm o y,N,L,C,⟨h.n1,h.n2,Nat.le_succ_of_le h.l1,h.l2,h.l3,h.c1,h.c2,h.c3,h.id,ig msL _ _ (by decide),h.dat,h.z.of (sL rfl rfl rfl rfl rfl rfl rfl rfl rfl rfl) h.z.l⟩,RU o g hM rN rL rC bn bl bc hk⟩
 |8,hk,_=>exact ⟨vn o y,N,L,C,⟨h.n1,h.n2,Nat.le_succ_of_le h.l1,h.l2,h.l3,h.c1,h.c2,h.c3,h.id,h.msg,h.dat,h.z.of (sL rfl rfl rfl rfl rfl rfl rfl rfl rfl rfl) h.z.l⟩,RV o g hM rN rL rC bn bl bc hk⟩
 |_+9,_,hlt=>exact absurd hlt (by omega)
theorem Gg {l:List Rw} {M:AV} (hM:ac M=true):∀ (m i:Nat) (o:Ob) (N:List (List UInt8)) (L:List Lk) (C:List Cu),i+m=min l.length 10→OxI i o N L C→∃o' N' L' C',OxI 10 o' N' L' C'∧∀Q:AExit→St→Prop,Q (.exit 0) (lK (min l.length 10) (l.map aJ) M o' N' L' C')→ALp Tryz.prog opts0.glob 0 (ah Tryz.prog 22 5) (lK i (l.map aJ) M o N L C) Q
 | 0,i,o,N,L,C,hm,h=>by
  rw[Nat.add_zero] at hm
  have rN:=pE 1 1 N.length
  have rL:=pE 2 2 L.length
  have rC:=pE 3 2 C.length
  have bn:=pF (ea N) N.length
  have bl:=pF (lH L) L.length
  have bc:=pF (jI C) C.length
  refine ⟨o,N,L,C,⟨h.n1,h.n2,Nat.le_trans h.l1 (by omega),h.l2,h.l3,h.c1,h.c2,h.c3,h.id,h.msg,h.dat,h.z⟩,fun Q hq=> ?_⟩
  rw[←hm] at hq
  unfold lK at hq⊢
  have hc:=fv l
  by_cases hi:i<10
  ·refine ALp.roundO (A:=aq [(4,3,.res (.bool false))] [] aA [] []) (V1:=oW (.ofNat i) (l.map aJ) [] []) (F:=oW (.ofNat i) (l.map aJ) (aa o M (bv 1 1 N.length) (bv 2 2 L.length) (bv 3 2 C.length)) []) (opt:=[]) (opt':=[(1,nb (N.map .str) N.length),(2,nb (flat (L.map bE)) L.length),(3,nb (flat (C.map aT)) C.length)]) (lk:=[]) (lk':=[(0,0),(1,1),(2,2),(3,3),(4,4)]) base0 am (LsOk.no rfl) .refl ?_
   rw[Gd]
   exact ⟨vk (by simp only[aI,List.length_map,Int.ofNat_eq_natCast];omega),⟨⟨⟨⟨rfl,hc⟩,⟨rfl,rfl⟩,trivial⟩,⟨⟨rfl,rfl⟩,⟨rfl,rfl⟩,trivial⟩,bp (o:=o) hM (rN _ rfl) (rL _ rfl) (rC _ rfl),⟨rfl,rfl⟩,trivial⟩,⟨rfl,bn⟩,⟨rfl,bl⟩,⟨rfl,bc⟩,trivial⟩,hq⟩
  ·by_cases hl:i<l.length
   ·refine ALp.roundO (A:=aq [(4,3,.res (.bool true)),(4,6,.res (.bool false))] [] aA [] []) (V1:=oW (.ofNat i) (l.map aJ) [] []) (F:=oW (.ofNat i) (l.map aJ) (aa o M (bv 1 1 N.length) (bv 2 2 L.length) (bv 3 2 C.length)) []) (opt:=[]) (opt':=[(1,nb (N.map .str) N.length),(2,nb (flat (L.map bE)) L.length),(3,nb (flat (C.map aT)) C.length)]) (lk:=[]) (lk':=[(0,0),(1,1),(2,2),(3,3),(4,4)]) base0 am (LsOk.no rfl) .refl ?_
    rw[Sg]
    exact ⟨pz (by simp only[aI,List.length_map,Int.ofNat_eq_natCast];omega),vk (by simp only[Int.ofNat_eq_natCast];omega),⟨⟨⟨⟨rfl,hc⟩,⟨rfl,rfl⟩,trivial⟩,⟨⟨rfl,rfl⟩,⟨rfl,rfl⟩,trivial⟩,bp (o:=o) hM (rN _ rfl) (rL _ rfl) (rC _ rfl),⟨rfl,rfl⟩,trivial⟩,⟨rfl,bn⟩,⟨rfl,bl⟩,⟨rfl,bc⟩,trivial⟩,hq⟩
   ·refine ALp.roundO (A:=aq [(4,3,.res (.bool false))] [] aA [] []) (V1:=oW (.ofNat i) (l.map aJ) [] []) (F:=oW (.ofNat i) (l.map aJ) (aa o M (bv 1 1 N.length) (bv 2 2 L.length) (bv 3 2 C.length)) []) (opt:=[]) (opt':=[(1,nb (N.map .str) N.length),(2,nb (flat (L.map bE)) L.length),(3,nb (flat (C.map aT)) C.length)]) (lk:=[]) (lk':=[(0,0),(1,1),(2,2),(3,3),(4,4)]) base0 am (LsOk.no rfl) .refl ?_
    rw[Gd]
    exact ⟨vk (by simp only[aI,List.length_map,Int.ofNat_eq_natCast];omega),⟨⟨⟨⟨rfl,hc⟩,⟨rfl,rfl⟩,trivial⟩,⟨⟨rfl,rfl⟩,⟨rfl,rfl⟩,trivial⟩,bp (o:=o) hM (rN _ rfl) (rL _ rfl) (rC _ rfl),⟨rfl,rfl⟩,trivial⟩,⟨rfl,bn⟩,⟨rfl,bl⟩,⟨rfl,bc⟩,trivial⟩,hq⟩
 |m+1,i,o,N,L,C,hm,h=>by
  have hi:i<l.length:=by omega
  obtain ⟨o1,N1,L1,C1,h1,s1⟩:=Sn (l:=l) (List.getElem?_eq_getElem hi) (by omega) hM h
  obtain ⟨o2,N2,L2,C2,h2,s2⟩:=Gg (l:=l) hM m (i+1) o1 N1 L1 C1 (by omega) h1
  exact ⟨o2,N2,L2,C2,h2,fun Q hq=>s1 Q (s2 Q hq)⟩
theorem Al (s:List UInt8):fc 1 (.str s):=⟨rfl,rfl⟩
theorem Gh (l:Lk):fc 2 (bE l):=⟨rfl,rfl⟩
theorem Am (c:Cu):fc 2 (aT c):=⟨rfl,rfl⟩
def fr (l:List AV):AV:=match l with
 |[]=> .nilsl
 |a::t=> .fsl false (a::t)
theorem So (l:List AV):Wk (fr l) (.fsl false l):=match l with
 |[]=> .nil
 |_::_=> .refl _
theorem An {l:List AV} (h:ad l=true):ac (fr l)=true:=match l,h with
 |[],_=>rfl
 |_::_,h=>h
theorem pH:∀l:List (List UInt8),flat (l.map .str)=l.map AV.str
 |[]=>rfl
 |s::t=>by rw[List.map_cons,flat,pH t];rfl
theorem pI {H:ae} {id w:Nat} {es:List AV} {c:List AV} (hid:hget H id=nb c es.length) (hc:c=flat es) (hes:∀e∈es,fc w e) (hcl:ad es=true):Frz 0 H (bv id w es.length) (fr es):=by
 cases es with
 |nil=>exact .closed _ rfl
 |cons a t=>exact .row rfl hid hc rfl hes hcl
theorem Ao {H:ae} {o:Ob} {M N L C N' L' C':AV} (hM:ac M=true) (hN:Frz 0 H N N') (hL:Frz 0 H L L') (hC:Frz 0 H C C'):Frz 0 H (.agg (aa o M N L C)) (.agg (aa o M N' L' C')):=by
 refine .agg ?_
 simp only[aa]
 repeat (first|exact FrzL.nil|refine FrzL.cons hN ?_|refine FrzL.cons hL ?_|refine FrzL.cons hC ?_|refine FrzL.cons (.closed _ hM) ?_|refine FrzL.cons (.closed _ rfl) ?_)
theorem Ap {o:Ob} {m:List UInt8} {N:List (List UInt8)} {L:List Lk} {C:List Cu}:Wk (.agg (aa o (.fsl false (ap m)) (fr (N.map .str)) (fr (L.map bE)) (fr (C.map aT)))) (aj {o with mat:=m,names:=N,links:=L,cust:=C}):=by
 refine .agg ?_
 simp only[ao,aa,gz,fe,ff,cS]
 repeat (first|exact WkL.nil|refine WkL.cons (.refl _) ?_|refine WkL.cons (So _) ?_)
theorem Aq {o:Ob} {m:List UInt8} {N:List (List UInt8)} {L:List Lk} {C:List Cu}:ac (.agg (aa o (.fsl false (ap m)) (fr (N.map .str)) (fr (L.map bE)) (fr (C.map aT))))=true:=
 sv o (gu m) (An (ea N)) (An (o9 L)) (An (lw C))
theorem Sp (o:Ob) (m:List AV) (n c:Nat):cQ Tryz.prog 33 (.agg (aa o (.fsl false m) (bv 1 1 n) .nilsl (bv 3 2 c))) 37=true:=by
 cases n<;>cases c<;>kernel_rfl
theorem Gi (o:Ob) (m:List AV) (n k c:Nat):cQ Tryz.prog 33 (.agg (aa o (.fsl false m) (bv 1 1 n) (.rsl true 2 0 k 2) (bv 3 2 c))) 37=true:=by
 cases n<;>cases c<;>kernel_rfl
def kz:List Int:=[2,2,3,4,7]
def agL:List Int:=[3,3,0,4]
def kA:List Int:=[396,12,4,384,0]
def nuL:List Nat:=[16,16,32,0,24]
theorem vz {T:Nat} {l:List Int} (hT:T=103) (h5:l.length=5) (n:Int):aZ Tryz.prog T (.agg (l.map I)) (I (n%5))=some (I (aD l 0 n)):=by
 subst hT
 match l,h5 with
 | [a0,a1,a2,a3,a4],_=>
  exact nF (T:=103) (d:=0) (l:=[a0,a1,a2,a3,a4]) (f:=I) (by simp) fun k x h=>by
   match k,h with
   |0,h=>obtain rfl:_=x:=Option.some.inj h;show aZ _ _ _ _=_;kernel_rfl
   |1,h=>obtain rfl:_=x:=Option.some.inj h;show aZ _ _ _ _=_;kernel_rfl
   |2,h=>obtain rfl:_=x:=Option.some.inj h;show aZ _ _ _ _=_;kernel_rfl
   |3,h=>obtain rfl:_=x:=Option.some.inj h;show aZ _ _ _ _=_;kernel_rfl
   |4,h=>obtain rfl:_=x:=Option.some.inj h;show aZ _ _ _ _=_;kernel_rfl
theorem Gj (n:Int):aZ Tryz.prog 104 (.agg (agL.map I)) (I (n%4))=some (I (aD agL 0 n)):=
 nF (T:=104) (d:=0) (l:=agL) (f:=I) (by decide) fun k x h=>by
  match k,h with
  |0,h=>obtain rfl:_=x:=Option.some.inj h;show aZ _ _ _ _=_;kernel_rfl
  |1,h=>obtain rfl:_=x:=Option.some.inj h;show aZ _ _ _ _=_;kernel_rfl
  |2,h=>obtain rfl:_=x:=Option.some.inj h;show aZ _ _ _ _=_;kernel_rfl
  |3,h=>obtain rfl:_=x:=Option.some.inj h;show aZ _ _ _ _=_;kernel_rfl
theorem Sq (n:Int):aZ Tryz.prog 103 (.agg (nuL.map fun n=>I (.ofNat n))) (I (n%5))=some (I (.ofNat (aD nuL 0 n))):=
 nF (T:=103) (d:=0) (l:=nuL) (f:=fun n=>I (.ofNat n)) (by decide) fun k x h=>by
  match k,h with
  |0,h=>obtain rfl:_=x:=Option.some.inj h;show aZ _ _ _ _=_;kernel_rfl
  |1,h=>obtain rfl:_=x:=Option.some.inj h;show aZ _ _ _ _=_;kernel_rfl
  |2,h=>obtain rfl:_=x:=Option.some.inj h;show aZ _ _ _ _=_;kernel_rfl
  |3,h=>obtain rfl:_=x:=Option.some.inj h;show aZ _ _ _ _=_;kernel_rfl
  |4,h=>obtain rfl:_=x:=Option.some.inj h;show aZ _ _ _ _=_;kernel_rfl
structure Ar (o:Ob):Prop where
 i:OxI 8 o o.names o.links o.cust
 m:o.mat.length≤32
theorem Gk:br (cy Tryz.prog 22) 5=[ah Tryz.prog 22 5]:=by kernel_rfl
set_option maxRecDepth 20000 in
theorem Sr (x:Rw) (l:List Rw):∃o,Ar o∧SC 22 [aJ x,.fsl false (l.map aJ)] (aj o):=by
 have hn:aD nuL 0 (af .i64 (x.b.tdiv 5))≤32:=(by decide:∀n∈nuL,n≤32) _ (ig nuL 0 _ (by decide))
 have hbytes:=Sf (n:=aD nuL 0 (af .i64 (x.b.tdiv 5))) (by omega) x.c
 have hml:=Ai (aD nuL 0 (af .i64 (x.b.tdiv 5))) (af .u64 x.c)
 have hnu:=Sq (af .i64 (x.b.tdiv 5))
 revert hbytes hml hnu hn
 generalize aD nuL 0 (af .i64 (x.b.tdiv 5))=n
 generalize lJ n (af .u64 x.c)=mat
 intro hn hbytes hml hnu
 have hcl:ad [aJ x,.fsl false (l.map aJ)]=true:=by
  have:=fv l
  simp only[ad,ac,this,aJ,kq,Bool.and_self]
 obtain ⟨o,N,L,C,h,hrun⟩:=Gg (l:=l) (M:= .fsl false (ap mat)) (gu _) (min l.length 10) 0 (nG x (aD idL [] x.a) (aD kz 0 x.b) (aD agL 0 x.c) (aD kA 0 (af .i64 (x.a.tdiv 12))) mat) [] [] [] (Nat.zero_add _)
  ⟨(fun _ h=>by cases h),.nil,Nat.le_refl _,.nil,(fun _ h=>by cases h),by simp,.nil,(fun _ h=>by cases h),ig idL [] _ (by decide),(by decide:([]:List UInt8)∈msL),rfl,⟨fun k hk=>by
   match k,hk with
   |0,hk=>cases hk
   |1,_=>rfl
   |2,_=>rfl
   |3,_=>rfl
   |4,_=>rfl
   |5,_=>rfl
   |6,_=>rfl
   |7,_=>rfl
   |8,_=>rfl
   |9,_=>rfl
   |_+10,_=>rfl,fun _=>⟨rfl,rfl,rfl⟩⟩⟩
 have hR:=fv l
 match L,h,hrun with
 | [],h,hrun=>
  refine ⟨{o with mat:=mat,names:=N,links:=[],cust:=C},⟨⟨h.n1,h.n2,by simp,h.l2,h.l3,h.c1,h.c2,h.c3,h.id,h.msg,h.dat,h.z.of (sL rfl rfl rfl rfl rfl rfl rfl rfl rfl rfl) h.z.l⟩,by show mat.length≤32;omega⟩, ?_⟩
  refine dH (A:=vw (aD idL [] x.a) (aD kz 0 x.b) (aD agL 0 x.c) (aD kA 0 (af .i64 (x.a.tdiv 12))) (.ofNat n) (ap mat) (vx (l.map aJ) (nG x (aD idL [] x.a) (aD kz 0 x.b) (aD agL 0 x.c) (aD kA 0 (af .i64 (x.a.tdiv 12))) mat) o (ap mat) (.ofNat (min l.length 10)) (bv 1 1 N.length) .nilsl (bv 3 2 C.length) (nb (N.map .str) N.length) none (nb (flat (C.map aT)) C.length))) base0 am
   (aN (LsOk.at1 rfl Gk fun st Q hs=> .seenO base0.glob hs.1 (fw (hrun Q hs.2) rfl (fun i b h=>match i,h with|0,h=>h|1,h=>h|2,h=>h|3,h=>h|4,h=>h|_+5,h=>h) rfl rfl))) hcl ?_
  rw[Sh]
  refine ⟨ph _,bm _ (by decide) (by decide),vz (l:=kz) rfl rfl _,bm _ (by decide) (by decide),Gj _,bm _ (by decide) (by decide),vz (l:=kA) rfl rfl _,bm _ (by decide) (by decide),hnu,hbytes,bm _ (by decide) (by decide),bm _ (by decide) (by decide),
   ⟨⟨⟨⟨rfl,hR⟩,⟨rfl,rfl⟩,trivial⟩,⟨⟨rfl,rfl⟩,⟨rfl,rfl⟩,trivial⟩,bp (o:=nG x (aD idL [] x.a) (aD kz 0 x.b) (aD agL 0 x.c) (aD kA 0 (af .i64 (x.a.tdiv 12))) mat) (gu mat) (.same _ rfl) (.same _ rfl) (.same _ rfl),⟨rfl,rfl⟩,trivial⟩,trivial⟩,
   aH (Sp o _ _ _) ?_⟩
  have f1:=pI (H:=[(4,some (.cells (aa o (.fsl false (ap mat)) (bv 1 1 N.length) .nilsl (bv 3 2 C.length)))),(0,some (.cells (aa o (.fsl false (ap mat)) (bv 1 1 N.length) .nilsl (bv 3 2 C.length)))),(4,some (.cells zC)),(1,nb (N.map .str) N.length),(2,none),(3,nb (flat (C.map aT)) C.length)]) (id:=1) (w:=1) (es:=N.map .str) (c:=N.map .str) (by rw[List.length_map];rfl) (pH N).symm (fun e he=>by obtain ⟨s,_,rfl⟩:=List.mem_map.1 he;exact Al s) (ea N)
  have f3:=pI (H:=[(4,some (.cells (aa o (.fsl false (ap mat)) (bv 1 1 N.length) .nilsl (bv 3 2 C.length)))),(0,some (.cells (aa o (.fsl false (ap mat)) (bv 1 1 N.length) .nilsl (bv 3 2 C.length)))),(4,some (.cells zC)),(1,nb (N.map .str) N.length),(2,none),(3,nb (flat (C.map aT)) C.length)]) (id:=3) (w:=2) (es:=C.map aT) (c:=flat (C.map aT)) (by rw[List.length_map];rfl) rfl (fun e he=>by obtain ⟨s,_,rfl⟩:=List.mem_map.1 he;exact Am s) (lw C)
  rw[List.length_map] at f1 f3
  exact ⟨_,(Ao (M:= .fsl false (ap mat)) (gu mat) f1 (.closed _ rfl) f3).out,Aq (L:=[]),Ap (L:=[])⟩
 | s::L,h,hrun=>
  have hlen:((s::L).take 8).length≤8:=List.length_take_le _ _
  refine ⟨{o with mat:=mat,names:=N,links:=(s::L).take 8,cust:=C},⟨⟨h.n1,h.n2,hlen,h.l2.sublist (List.take_sublist _ _),fun y hy=>h.l3 y (List.mem_of_mem_take hy),h.c1,h.c2,h.c3,h.id,h.msg,h.dat,h.z.of (sL rfl rfl rfl rfl rfl rfl rfl rfl rfl rfl) h.z.l⟩,by show mat.length≤32;omega⟩, ?_⟩
  refine dH (A:=vw (aD idL [] x.a) (aD kz 0 x.b) (aD agL 0 x.c) (aD kA 0 (af .i64 (x.a.tdiv 12))) (.ofNat n) (ap mat) (vx (l.map aJ) (nG x (aD idL [] x.a) (aD kz 0 x.b) (aD agL 0 x.c) (aD kA 0 (af .i64 (x.a.tdiv 12))) mat) o (ap mat) (.ofNat (min l.length 10)) (bv 1 1 N.length) (.rsl true 2 0 (s::L).length 2) (bv 3 2 C.length) (nb (N.map .str) N.length) (some (.cells (flat ((s::L).map bE)))) (nb (flat (C.map aT)) C.length))) base0 am
   (aN (LsOk.at1 rfl Gk fun st Q hs=> .seenO base0.glob hs.1 (fw (hrun Q hs.2) rfl (fun i b h=>match i,h with|0,h=>h|1,h=>h|2,h=>h|3,h=>h|4,h=>h|_+5,h=>h) rfl rfl))) hcl ?_
  rw[Si]
  refine ⟨ph _,bm _ (by decide) (by decide),vz (l:=kz) rfl rfl _,bm _ (by decide) (by decide),Gj _,bm _ (by decide) (by decide),vz (l:=kA) rfl rfl _,bm _ (by decide) (by decide),hnu,hbytes,bm _ (by decide) (by decide),bm _ (by decide) (by decide),
   ⟨⟨⟨⟨rfl,hR⟩,⟨rfl,rfl⟩,trivial⟩,⟨⟨rfl,rfl⟩,⟨rfl,rfl⟩,trivial⟩,bp (o:=nG x (aD idL [] x.a) (aD kz 0 x.b) (aD agL 0 x.c) (aD kA 0 (af .i64 (x.a.tdiv 12))) mat) (gu mat) (.same _ rfl) (.same _ rfl) (.same _ rfl),⟨rfl,rfl⟩,trivial⟩,trivial⟩,
   az (fun e=>aH ?_ (aH (Gi o _ _ _ _) ?_)) (fun e=>aH (Gi o _ _ _ _) ?_)⟩
  ·have e:=ltInt_iff.1 e
   simp only[Int.ofNat_eq_natCast] at e
   exact Nat.ble_eq_true_of_le (by omega)
  ·have e:=ltInt_iff.1 e
   simp only[Int.ofNat_eq_natCast] at e
   have e8:((s::L).take 8).length=8:=by rw[List.length_take];omega
   have hcut:j8 2 8 ((flat ((s::L).map bE)).drop 0)=some (((s::L).take 8).map bE):=by
    have:=yS (sz:=2) (es:=((s::L).take 8).map bE) (flat (((s::L).drop 8).map bE)) (fun e he=>by obtain ⟨s,_,rfl⟩:=List.mem_map.1 he;exact Gh s)
    rw[List.length_map,e8,←gv,←List.map_append,List.take_append_drop] at this
    exact this
   have f1:=pI (H:=[(4,some (.cells (aa o (.fsl false (ap mat)) (bv 1 1 N.length) (.rsl true 2 0 8 2) (bv 3 2 C.length)))),(0,some (.cells (aa o (.fsl false (ap mat)) (bv 1 1 N.length) (.rsl true 2 0 8 2) (bv 3 2 C.length)))),(4,some (.cells zC)),(1,nb (N.map .str) N.length),(2,some (.cells (flat ((s::L).map bE)))),(3,nb (flat (C.map aT)) C.length)]) (id:=1) (w:=1) (es:=N.map .str) (c:=N.map .str) (by rw[List.length_map];rfl) (pH N).symm (fun e he=>by obtain ⟨s,_,rfl⟩:=List.mem_map.1 he;exact Al s) (ea N)
   have f2:Frz 0 [(4,some (.cells (aa o (.fsl false (ap mat)) (bv 1 1 N.length) (.rsl true 2 0 8 2) (bv 3 2 C.length)))),(0,some (.cells (aa o (.fsl false (ap mat)) (bv 1 1 N.length) (.rsl true 2 0 8 2) (bv 3 2 C.length)))),(4,some (.cells zC)),(1,nb (N.map .str) N.length),(2,some (.cells (flat ((s::L).map bE)))),(3,nb (flat (C.map aT)) C.length)] (.rsl true 2 0 8 2) (fr (((s::L).take 8).map bE)):= .rsl rfl rfl hcut (FrzL.closed _ (o9 _))
   have f3:=pI (H:=[(4,some (.cells (aa o (.fsl false (ap mat)) (bv 1 1 N.length) (.rsl true 2 0 8 2) (bv 3 2 C.length)))),(0,some (.cells (aa o (.fsl false (ap mat)) (bv 1 1 N.length) (.rsl true 2 0 8 2) (bv 3 2 C.length)))),(4,some (.cells zC)),(1,nb (N.map .str) N.length),(2,some (.cells (flat ((s::L).map bE)))),(3,nb (flat (C.map aT)) C.length)]) (id:=3) (w:=2) (es:=C.map aT) (c:=flat (C.map aT)) (by rw[List.length_map];rfl) rfl (fun e he=>by obtain ⟨s,_,rfl⟩:=List.mem_map.1 he;exact Am s) (lw C)
   rw[List.length_map] at f1 f3
   exact ⟨_,(Ao (M:= .fsl false (ap mat)) (gu mat) f1 f2 f3).out,Aq (L:=((s::L).take 8)),Ap (L:=((s::L).take 8))⟩
  ·have e:=ltInt_false.1 e
   simp only[Int.ofNat_eq_natCast] at e
   have e8:(s::L).take 8=s::L:=List.take_of_length_le (by omega)
   rw[e8]
   have f1:=pI (H:=[(4,some (.cells (aa o (.fsl false (ap mat)) (bv 1 1 N.length) (.rsl true 2 0 (s::L).length 2) (bv 3 2 C.length)))),(0,some (.cells (aa o (.fsl false (ap mat)) (bv 1 1 N.length) (.rsl true 2 0 (s::L).length 2) (bv 3 2 C.length)))),(4,some (.cells zC)),(1,nb (N.map .str) N.length),(2,some (.cells (flat ((s::L).map bE)))),(3,nb (flat (C.map aT)) C.length)]) (id:=1) (w:=1) (es:=N.map .str) (c:=N.map .str) (by rw[List.length_map];rfl) (pH N).symm (fun e he=>by obtain ⟨s,_,rfl⟩:=List.mem_map.1 he;exact Al s) (ea N)
   have f2:Frz 0 [(4,some (.cells (aa o (.fsl false (ap mat)) (bv 1 1 N.length) (.rsl true 2 0 (s::L).length 2) (bv 3 2 C.length)))),(0,some (.cells (aa o (.fsl false (ap mat)) (bv 1 1 N.length) (.rsl true 2 0 (s::L).length 2) (bv 3 2 C.length)))),(4,some (.cells zC)),(1,nb (N.map .str) N.length),(2,some (.cells (flat ((s::L).map bE)))),(3,nb (flat (C.map aT)) C.length)] (.rsl true 2 0 (s::L).length 2) (fr ((s::L).map bE)):=by
    have:=Frz.row (n:=0) (own:=true) (id:=2) (len:=(s::L).length) (es:=(s::L).map bE) (sz:=2) (h:=[(4,some (.cells (aa o (.fsl false (ap mat)) (bv 1 1 N.length) (.rsl true 2 0 (s::L).length 2) (bv 3 2 C.length)))),(0,some (.cells (aa o (.fsl false (ap mat)) (bv 1 1 N.length) (.rsl true 2 0 (s::L).length 2) (bv 3 2 C.length)))),(4,some (.cells zC)),(1,nb (N.map .str) N.length),(2,some (.cells (flat ((s::L).map bE)))),(3,nb (flat (C.map aT)) C.length)]) rfl rfl rfl (by rw[List.length_map]) (fun e he=>by obtain ⟨s,_,rfl⟩:=List.mem_map.1 he;exact Gh s) (o9 _)
    exact this
   have f3:=pI (H:=[(4,some (.cells (aa o (.fsl false (ap mat)) (bv 1 1 N.length) (.rsl true 2 0 (s::L).length 2) (bv 3 2 C.length)))),(0,some (.cells (aa o (.fsl false (ap mat)) (bv 1 1 N.length) (.rsl true 2 0 (s::L).length 2) (bv 3 2 C.length)))),(4,some (.cells zC)),(1,nb (N.map .str) N.length),(2,some (.cells (flat ((s::L).map bE)))),(3,nb (flat (C.map aT)) C.length)]) (id:=3) (w:=2) (es:=C.map aT) (c:=flat (C.map aT)) (by rw[List.length_map];rfl) rfl (fun e he=>by obtain ⟨s,_,rfl⟩:=List.mem_map.1 he;exact Am s) (lw C)
   rw[List.length_map] at f1 f3
   exact ⟨_,(Ao (M:= .fsl false (ap mat)) (gu mat) f1 f2 f3).out,Aq (L:=(s::L)),Ap (L:=(s::L))⟩
structure Okay (o:Ob):Prop where
 fit:lD o
 n:∀s∈o.names,s∈ii
 l:∀x∈o.links,x.id∈ii
 c:∀x∈o.cust,x.text∈ii
 i:o.id∈ii
 m:o.msg.length≤8
theorem Su:∀s∈ii,s.length≤8:=by decide
theorem vA {s:List UInt8} (h:s.length≤8):dF cD (fm s):=⟨Nat.le_trans h (by decide),by simp[cD],trivial⟩
theorem pJ (y n:Int):dF cD (du y n):=⟨by simp[cD],by simp[cD],trivial⟩
theorem sM {b:Bool} {x:It}:(cR b x).length≤1:=by cases b<;>simp[cR]
theorem sN {b:Bool} {x y:It} (h:y∈cR b x):y=x:=by
 cases b with
 |true=>simpa [cR] using h
 |false=>cases h
theorem Sv {s:List UInt8} (h:s.length≤8) (a b c n:Int) (l:List It) (hl:l=[fp a b n,.mk c 7 0 s []]):dF cD (fZ l):=by
 subst hl
 simp[fZ,bO,dF,kp,fp,cD]
 omega
theorem Okay.g {o:Ob} (h:Okay o):∀k,nB o k:=by
 intro k
 have t:=Su
 cases k with
 | uid=>exact ⟨by simp[aU],fun x hx=>by
   simp only[aU,List.mem_singleton] at hx;subst hx;exact vA (t _ h.i)⟩
 | nam=>exact ⟨by have:=h.fit.n;simp only[aU,List.length_map];omega,fun x hx=>by
   obtain ⟨s,hs,rfl⟩:=List.mem_map.1 hx;exact vA (t _ (h.n s hs))⟩
 | typ=>exact ⟨by simp[aU],fun x hx=>by
   simp only[aU,List.mem_singleton] at hx;subst hx;exact pJ _ _⟩
 |alg=>exact ⟨Nat.le_trans sM (by decide),fun x hx=>by rw[sN hx];exact pJ _ _⟩
 |len=>exact ⟨Nat.le_trans sM (by decide),fun x hx=>by rw[sN hx];exact pJ _ _⟩
 | mask=>exact ⟨by simp[aU],fun x hx=>by
   simp only[aU,List.mem_singleton] at hx;subst hx;exact pJ _ _⟩
 | sta=>exact ⟨by simp[aU],fun x hx=>by
   simp only[aU,List.mem_singleton] at hx;subst hx;exact pJ _ _⟩
 |dat k=>exact ⟨Nat.le_trans sM (by decide),fun x hx=>by rw[sN hx];exact pJ _ _⟩
 | why=>exact ⟨Nat.le_trans sM (by decide),fun x hx=>by
   rw[sN hx]
   have hm:=h.m
   simp only[sw]
   match o.msg,hm with
   |[],_=>simp[fZ,bO,dF,kp,fp,pt,cD]
   |a::r,hm=>
    simp only[List.length_cons] at hm
    simp[fZ,bO,dF,kp,fp,pt,cD]
    omega⟩
 | lnk=>exact ⟨by have:=h.fit.l;simp only[aU,List.length_map];omega,fun x hx=>by
   obtain ⟨s,hs,rfl⟩:=List.mem_map.1 hx
   exact Sv (t _ (h.l s hs)) _ _ _ _ _ rfl⟩
 | lim=>exact ⟨Nat.le_trans sM (by decide),fun x hx=>by
   rw[sN hx]
   simp[uZ,fZ,bO,dF,kp,fp,cD]⟩
 | cus s=>exact ⟨by
   have:=h.fit.c
   simp only[aU,List.length_map]
   exact Nat.le_trans (List.length_filter_le _ _) (by omega),fun x hx=>by
   obtain ⟨c,hc,rfl⟩:=List.mem_map.1 hx
   exact vA (t _ (h.c c (List.mem_filter.1 hc).1))⟩
theorem Sw {o:Ob} (h:Ar o):Okay o:=by
 have hc:=h.i.names
 refine ⟨⟨by omega,h.i.l1,h.i.c1,Nat.le_trans h.m (by decide)⟩,fun s hs=> ?_,fun s hs=> ?_,fun s hs=> ?_, ?_, ?_⟩
 ·exact (by decide:∀s∈nmL,s∈ii) s (h.i.n1 s hs)
 ·exact (by decide:∀s∈idL,s∈ii) _ (h.i.l3 s hs)
 ·exact (by decide:∀s∈ctL,s∈ii) _ (h.i.c3 s hs).2
 ·exact (by decide:∀s∈idL,s∈ii) _ h.i.id
 ·exact (by decide:∀s∈msL,s.length≤8) _ h.i.msg
theorem Au {α:Type} {l:List α} {i:Nat} {x y:α} (h:y∈nv l i x):y∈l∨y=x:=by
 simp only[nv,List.mem_append,List.mem_cons] at h
 rcases h with h|h|h
 ·exact .inl (List.mem_of_mem_take h)
 ·exact .inr h
 ·exact .inl (List.mem_of_mem_drop h)
theorem Av {α:Type} {l:List α} {i n:Nat} {x:α} (h:i≤l.length) (h1:l.length≤n) (h2:i<n):(nv l i x).length≤n:=by
 simp only[nv,List.length_append,List.length_cons,List.length_take,List.length_drop]
 omega
theorem Sx {v:It} (h:sD v) (i:Nat):cL (nA v i)∈ii:=by
 unfold nA
 cases hk:(cT v)[i]? with
 |none=>exact u0 h
 | some k=>
  have:∀ (l:List It),zX l→∀ (i:Nat) (k:It),l[i]? =some k→sD k:=by
   intro l
   induction l with
   |nil=>intro _ i k h;simp at h
   |cons a r ih=>
    intro hl i k h
    cases i with
    |zero=>simp at h;subst h;exact hl.1
    |succ i=>exact ih hl.2 i k (by simpa using h)
  refine u0 (this (cT v) ?_ i k hk)
  cases v
  exact h.2
theorem Okay.date {o:Ob} (h:Okay o) (d:Dt) (k:Nat):Okay (aO o d k):=by
 have e:∀p:Ob,p.names=o.names→p.links=o.links→p.cust=o.cust→p.mat=o.mat→p.id=o.id→p.msg=o.msg→Okay p:=fun p h1 h2 h3 h4 h5 h6=>
  ⟨⟨by rw[h1];exact h.fit.n,by rw[h2];exact h.fit.l,by rw[h3];exact h.fit.c,by rw[h4];exact h.fit.m⟩,by rw[h1];exact h.n,by rw[h2];exact h.l,by rw[h3];exact h.c,by rw[h5];exact h.i,by rw[h6];exact h.m⟩
 unfold aO
 split<;>exact e _ rfl rfl rfl rfl rfl rfl
theorem Okay.put {o:Ob} (h:Okay o) {k:Kd} {j:Nat} (hj:P9 o j k) {v:It} (hv:sD v):Okay (P8 o j v k):=by
 cases k with
 | nam=>exact ⟨⟨Av hj.1 h.fit.n hj.2,h.fit.l,h.fit.c,h.fit.m⟩,fun s hs=>by
   rcases Au hs with hs|rfl
   ·exact h.n s hs
   ·exact u0 hv,h.l,h.c,h.i,h.m⟩
 |alg=>exact ⟨⟨h.fit.n,h.fit.l,h.fit.c,h.fit.m⟩,h.n,h.l,h.c,h.i,h.m⟩
 |len=>exact ⟨⟨h.fit.n,h.fit.l,h.fit.c,h.fit.m⟩,h.n,h.l,h.c,h.i,h.m⟩
 |mask=>exact ⟨⟨h.fit.n,h.fit.l,h.fit.c,h.fit.m⟩,h.n,h.l,h.c,h.i,h.m⟩
 |dat k=>exact h.date _ k
 | lnk=>exact ⟨⟨h.fit.n,Av hj.1 h.fit.l hj.2,h.fit.c,h.fit.m⟩,h.n,fun s hs=>by
   rcases Au hs with hs|rfl
   ·exact h.l s hs
   ·exact Sx hv 1,h.c,h.i,h.m⟩
 |lim=>exact ⟨⟨h.fit.n,h.fit.l,h.fit.c,h.fit.m⟩,h.n,h.l,h.c,h.i,h.m⟩
 | cus s=>
  have hp:=Qa (o:=o) (s:=s) (j:=j) (by rcases hj with hj|hj<;>omega)
  have h6:nz o s j<6:=by
   have:=h.fit.c
   rcases hj with hj|hj
   ·have:=hp.2.2 hj;omega
   ·have:=hp.2.1;omega
  exact ⟨⟨h.fit.n,h.fit.l,Av hp.2.1 h.fit.c h6,h.fit.m⟩,h.n,h.l,fun c hc=>by
   rcases Au hc with hc|rfl
   ·exact h.c c hc
   ·exact u0 hv,h.i,h.m⟩
 |_=>exact h
def dJ (s:List UInt8) (l:List Cu):Nat:=(l.filter fun c=>aB c.name s).length
def pK:List Cu→List Cu→List At
 |_,[]=>[]
 |pre,c::r=>⟨c.name,.ofNat (dJ c.name pre),fm c.text⟩::pK (pre++[c]) r
def kB (o:Ob):List Kd→List At
 |[]=>[]
 |k::r=>bS (aM k) (aU o k) 0++kB o r
def gC (o:Ob):List At:=kB o kinds++pK [] o.cust
def dP (s:List UInt8) (l:List At):List At:=l.filter fun a=>aB a.name s
theorem Aw (s:List UInt8) (l r:List At):dP s (l++r)=dP s l++dP s r:=List.filter_append ..
theorem Ax {a b:List UInt8} (h:a≠b):aB a b=false:=by
 cases hb:aB a b with
 |false=>rfl
 |true=>exact absurd (beqBytes_iff.1 hb) h
theorem Gl (s:List UInt8):∀ (l:List It) (i:Nat),dP s (bS s l i)=bS s l i
 |[],_=>rfl
 |v::r,i=>by
  have ih:=Gl s r (i+1)
  unfold dP at ih⊢
  rw[bS,List.filter_cons,ih,if_pos (beqBytes_iff.2 rfl)]
theorem Ay {s n:List UInt8} (h:n≠s):∀ (l:List It) (i:Nat),dP s (bS n l i)=[]
 |[],_=>rfl
 |v::r,i=>by
  have ih:=Ay h r (i+1)
  unfold dP at ih⊢
  rw[bS,List.filter_cons,ih,Ax h]
  rfl
theorem Az {s:List UInt8}:∀ {l:List Kd},(∀k∈l,aM k≠s)→gW s l=none
 |[],_=>rfl
 |a::r,h=>by rw[gW,Ax (h a (by simp)),Az fun k hk=>h k (by simp[hk])]
theorem Gm (o:Ob) {s:List UInt8}:∀ {l:List Kd},(∀k∈l,aM k≠s)→dP s (kB o l)=[]
 |[],_=>rfl
 |a::r,h=>by rw[kB,Aw,Ay (h a (by simp)),Gm o fun k hk=>h k (by simp[hk])];rfl
theorem Gn (o:Ob) (s:List UInt8):∀ {l:List Kd},(l.map aM).Nodup→dP s (kB o l)=match gW s l with
  |none=>[]
  |some k=>bS s (aU o k) 0
 |[],_=>rfl
 | a::r,h=>by
  rw[List.map_cons,List.nodup_cons] at h
  rw[kB,Aw,gW]
  cases hb:aB (aM a) s with
  |true=>
   have e:=beqBytes_iff.1 hb
   subst e
   rw[Gl,Gm o fun k hk e=>h.1 (List.mem_map.2 ⟨k,hk,e⟩),List.append_nil]
  |false=>
   have e:aM a≠s:=fun e=>by rw[beqBytes_iff.2 e] at hb;cases hb
   rw[Ay e,Gn o s h.2,List.nil_append]
theorem Gp (s:List UInt8) (pre:List Cu) (c:Cu):dJ s (pre++[c])=dJ s pre+(match aB c.name s with|true=>1|false=>0):=by
 unfold dJ
 rw[List.filter_append,List.length_append,List.filter_cons]
 cases aB c.name s<;>rfl
theorem Gq (s:List UInt8):∀ (l pre:List Cu),dP s (pK pre l)=bS s ((l.filter fun c=>aB c.name s).map fun c=>fm c.text) (dJ s pre)
 |[],_=>rfl
 | c::r,pre=>by
  have ih:=Gq s r (pre++[c])
  rw[Gp] at ih
  unfold dP at ih⊢
  rw[pK,List.filter_cons,ih,List.filter_cons]
  cases hb:aB c.name s with
  |true=>
   have e:=beqBytes_iff.1 hb
   subst e
   rfl
  |false=>rfl
structure Gr (c:Bool) (s:List UInt8) (o:Ob):Prop where
 t:c=true→∀k∈kinds,aM k≠s
 f:c=false→∀x∈o.cust,x.name≠s
theorem Sy:(kinds.map aM).Nodup:=by decide
theorem Sz {c:Bool} {s:List UInt8} {o:Ob} (h:Gr c s o):dP s (gC o)=fu c o s:=by
 rw[gC,Aw,Gn o s Sy,Gq,fu]
 cases c with
 |true=>
  rw[Az (h.t rfl)]
  rfl
 |false=>
  have hf:(o.cust.filter fun c=>aB c.name s)=[]:=List.filter_eq_nil_iff.2 fun x hx=>by rw[Ax (h.f rfl x hx)];simp
  rw[hf]
  rw[show ([]:List Cu).map (fun c=>fm c.text)=[] from rfl,show ∀n,bS s [] n=[] from fun _=>rfl,List.append_nil]
  rfl
theorem Gs {s:List UInt8} {v:It}:∀ {l:List It} {i k:Nat},l[k]? =some v→(bS s l i)[k]? =some ⟨s,.ofNat (i+k),v⟩
 |[],_,_,h=>by simp at h
 |a::r,i,0,h=>by
  simp at h;subst h;rfl
 |a::r,i,k+1,h=>by
  have ih:=Gs (s:=s) (i:=i+1) (k:=k) (l:=r) (by simpa using h)
  rw[show i+1+k=i+(k+1) by omega] at ih
  simpa [bS] using ih
theorem Gt:∀l:List At,bo 7 (l.map ag)=true
 |[]=>rfl
 |⟨_,_,⟨_,_,_,_,_⟩⟩::r=>by
  rw[List.map_cons,bo,Gt r]
  rfl
theorem Gu:∀l:List At,aS (flat (l.map ag))=true
  |[]=>rfl
  | ⟨_,_,⟨_,_,_,_,_⟩⟩::r=>by
    rw[List.map_cons,flat,allOne_append,Gu r]
    rfl
 where
  allOne_append:∀ {l r:List AV},aS (l++r)=(aS l&&aS r)
    |[],_=>rfl
    |a::t,r=>by rw[List.cons_append,aS,aS,allOne_append,Bool.and_assoc]
theorem Gv {o:Ob} (hg:∀k,nB o k):∀l:List Kd,(kB o l).length≤1000*l.length
 |[]=>Nat.le_refl _
 |a::t=>by
  have:=Gv hg t
  have h:=(hg a).n
  rw[kB,List.length_append,sI,List.length_cons]
  omega
def gY (c:Cu) (n:Nat):AV:= .agg [.str c.name,I (.ofNat n),I 4325387,I 7,I 0,.fsl false (ap c.text),.nilsl]
def dv:List Cu→List Cu→List AV
 |_,[]=>[]
 |pre,c::r=>gY c (dJ c.name pre)::dv (pre++[c]) r
theorem Gw (c:Cu):∀ (l q:List Cu),dv q (l++[c])=dv q l++[gY c (dJ c.name (q++l))]
 |[],q=>by rw[List.append_nil];rfl
 |a::r,q=>by
  have ih:=Gw c r (q++[a])
  rw[List.append_assoc,List.singleton_append] at ih
  rw[List.cons_append,dv,dv,ih,List.cons_append]
theorem AA:∀ (l q:List Cu),(dv q l).length=l.length
 |[],_=>rfl
 |a::r,q=>by rw[dv,List.length_cons,List.length_cons,AA r]
theorem AB:∀ (l q:List Cu),ad (flat (dv q l))=true
 |[],_=>rfl
 |a::r,q=>by
  rw[dv,flat,dh,AB r]
  simp[gY,AV.cells,ac,ad]
theorem Gx:∀ (l q:List Cu),(flat (dv q l)).length=l.length*7
 |[],_=>rfl
 |a::r,q=>by
  rw[dv,flat,List.length_append,Gx r,List.length_cons]
  simp[gY,AV.cells]
  omega
theorem AC:∀ (l q:List Cu),WkE (dv q l) ((pK q l).map ag)
 |[],_=> .nil
 |a::r,q=>by
  rw[dv,pK,List.map_cons]
  refine WkE.consA ?_ (AC r _)
  simp only[fm,bO]
  (repeat (first|exact Wk.refl _|exact WkL.refl _|exact Wk.nil|exact Wk.row|exact WkE.refl _|exact WkL.nil|exact WkE.nil|apply Wk.agg|apply Wk.tuple|apply WkL.cons|apply Wk.rows|apply WkE.consA))
inductive sO (pre:List Cu):Blk→Prop
 |m (hp:dJ [120,45,97] pre=0) (hq:dJ [120,45,98] pre=0):sO pre (.mapb 0 [] [])
 |ma (p:Nat) (hp:dJ [120,45,97] pre=p) (hq:dJ [120,45,98] pre=0):sO pre (.mapb 1 [0] [(.str [120,45,97],I (.ofNat p))])
 |mb (p:Nat) (hp:dJ [120,45,98] pre=p) (hq:dJ [120,45,97] pre=0):sO pre (.mapb 1 [0] [(.str [120,45,98],I (.ofNat p))])
 |mab (p q:Nat) (hp:dJ [120,45,97] pre=p) (hq:dJ [120,45,98] pre=q):sO pre (.mapb 2 [0,1] [(.str [120,45,97],I (.ofNat p)),(.str [120,45,98],I (.ofNat q))])
 |mba (p q:Nat) (hp:dJ [120,45,98] pre=p) (hq:dJ [120,45,97] pre=q):sO pre (.mapb 2 [0,1] [(.str [120,45,98],I (.ofNat p)),(.str [120,45,97],I (.ofNat q))])
theorem AD {C:List Cu} {i:Nat} {c:Cu} (h:C[i]? =some c):ax Tryz.prog 29 (.fsl false (C.map aT)) (.int .i64 (.ofNat i))=some (.fptr [.str c.name,.str c.text] 0):=
 fY (v:=aT c) (e:=101) (sz:=2) (by kernel_rfl) (by kernel_rfl) (by rw[List.getElem?_map,h];rfl) rfl
theorem SA {es:List AV} {c:Cu} {n:Nat} (h:ad es=true):ad (es++flat [gY c n])=true:=by
 rw[dh,h]
 simp[gY,flat,AV.cells,ac,ad]
theorem iY {i n:Nat} (h:i<n):¬ar (Int.ofNat i) (Int.ofNat n)=false:=fun e=>by
 have e:=ltInt_false.1 e
 simp only[Int.ofNat_eq_natCast] at e
 omega
section
variable {o:Ob} {C:List Cu} {i k:Nat} {t:List UInt8} {es:List AV} {Q:AExit→St→Prop}
end
theorem SB (s:List UInt8) (l:List Cu):dJ s l≤l.length:=List.length_filter_le _ _
theorem all_cons (o:Ob):∃r,gC o=⟨aM .uid,0,fm o.id⟩::r:=⟨_,rfl⟩
theorem a8 {c:Bool} {T F:Prop} (h:c=true) (t:T):ak c T F:=az (fun _=>t) fun e=>by rw[h] at e;cases e
theorem bz {c:Bool} {T F:Prop} (h:c=false) (f:F):ak c T F:=az (fun e=>by rw[h] at e;cases e) fun _=>f
noncomputable section
def eF (s:List UInt8) (i n:Int) (Ls:List AV):View:=⟨[(1,.str s),(5,.nilsl),(8,.fsl false Ls),(9,I n),(10,I i)],[],[],0,25⟩
def ed (s:List UInt8) (i n:Int) (k:Nat) (Ls es:List AV):View:=⟨[(1,.str s),(8,.fsl false Ls),(9,I n),(10,I i)],[(5,.rsl true 0 0 k 5)],[(0,.cells es,.whole)],1,25⟩
def jK (c:List AV):be:=aq [(4,0,.res (.fptr c 0))] [] aA [] []
@[simp] abbrev iv (Ls:List AV):=(AV.fsl false Ls=AV.fsl false Ls∧ac (AV.fsl false Ls)=true)
@[simp] abbrev iw (s:List UInt8):=(AV.str s=AV.str s∧ac (AV.str s)=true)
abbrev iy (D K:List AV) (q t y:Int):=[AV.agg [I t,I y,I q,AV.fsl false D,AV.fsl false K]]
@[simp] abbrev iZ (n:Int):=(I n=I n∧ac (I n)=true)
@[simp] abbrev vB:=(AV.nilsl=AV.nilsl∧true=true)
abbrev vC (D K:List AV) (idx q t y:Int) (s':List UInt8):=(AV.fptr [AV.str s',I idx,I t,I y,I q,AV.fsl false D,AV.fsl false K] 0)
theorem Gy (s s':List UInt8) (i j n idx t y q:Int) (Ls D K:List AV) (N:Prop) (Q:AExit→St→Prop):aw Tryz.prog opts0 40 (jK (.str s'::I idx::ay t y q D K)) (ah Tryz.prog 99 4) (eF s i n Ls).st (bf 0 [] (eF s j n Ls) N [] (eF s i n Ls) Q)=
  (ak (ar i n) (ax Tryz.prog 43 (AV.fsl false Ls) (I i)=some (vC D K idx q t y s')∧ak (aB s' s) ((((iw s)∧(AV.rsl true 13 0 (ab (iy D K q t y)) 5=AV.nilsl∧true=true)∧(iv Ls)∧(iZ n)∧(I (af IntKind.i64 (i+1))=I j∧ac (I j)=true)∧True)∧True∧True)∧N) ((((iw s)∧vB∧(iv Ls)∧(iZ n)∧(I (af IntKind.i64 (i+1))=I j∧ac (I j)=true)∧True)∧True∧True)∧N)) ((((iw s)∧vB∧(iv Ls)∧(iZ n)∧(I i=I i∧ac (I i)=true)∧True)∧True∧True)∧Q (AExit.exit 0) (eF s i n Ls).st)):=by kernel_rfl
theorem SD (s s':List UInt8) (i j n idx t y q:Int) (Ls D K es':List AV) (N:Prop) (Q:AExit→St→Prop):aw Tryz.prog opts0 40 (jK (.str s'::I idx::ay t y q D K)) (ah Tryz.prog 99 4) (eF s i n Ls).st (bf 0 [(0,13)] (ed s j n 1 Ls es') N [] (eF s i n Ls) Q)=
  (ak (ar i n) (ax Tryz.prog 43 (AV.fsl false Ls) (I i)=some (vC D K idx q t y s')∧ak (aB s' s) ((((iw s)∧(iv Ls)∧(iZ n)∧(I (af IntKind.i64 (i+1))=I j∧ac (I j)=true)∧True)∧((true=true∧some 13=some 13∧0=0∧1=ab (iy D K q t y)∧5=5)∧True)∧(flat (iy D K q t y)=es'∧ad es'=true)∧True)∧N) ((((iw s)∧(iv Ls)∧(iZ n)∧(I (af IntKind.i64 (i+1))=I j∧ac (I j)=true)∧True)∧(False∧True)∧False∧True)∧N)) ((((iw s)∧vB∧(iv Ls)∧(iZ n)∧(I i=I i∧ac (I i)=true)∧True)∧True∧True)∧Q (AExit.exit 0) (eF s i n Ls).st)):=by kernel_rfl
@[simp] abbrev Gz (Ls es:List AV) (Q:AExit→St→Prop) (i n:Int) (k:Nat) (s:List UInt8):=((((iw s)∧(iv Ls)∧(iZ n)∧(I i=I i∧ac (I i)=true)∧True)∧((true=true∧some 0=some 0∧0=0∧k=k∧5=5)∧True)∧(es=es∧ad es=true)∧True)∧Q (AExit.exit 0) (ed s i n k Ls es).st)
theorem GA (s s':List UInt8) (i j n idx t y q:Int) (k:Nat) (Ls D K es:List AV) (N:Prop) (Q:AExit→St→Prop):aw Tryz.prog opts0 40 (jK (.str s'::I idx::ay t y q D K)) (ah Tryz.prog 99 4) (ed s i n k Ls es).st (bf 0 [(0,0)] (ed s j n k Ls es) N [(0,0)] (ed s i n k Ls es) Q)=
  (ak (ar i n) (ax Tryz.prog 43 (AV.fsl false Ls) (I i)=some (vC D K idx q t y s')∧ak (aB s' s) (aC (bo 5 (iy D K q t y)&&(((k+ab (iy D K q t y))*72).ble 140737488355328&&(aS (flat (iy D K q t y))&&true))) (aC ((ab es).beq (k*5)) ((((iw s)∧(iv Ls)∧(iZ n)∧(I (af IntKind.i64 (i+1))=I j∧ac (I j)=true)∧True)∧((true=true∧some 0=some 14∧0=0∧k=k+ab (iy D K q t y)∧5=5)∧True)∧False∧True)∧N))) ((((iw s)∧(iv Ls)∧(iZ n)∧(I (af IntKind.i64 (i+1))=I j∧ac (I j)=true)∧True)∧((true=true∧some 0=some 0∧0=0∧k=k∧5=5)∧True)∧(es=es∧ad es=true)∧True)∧N)) (Gz Ls es Q i n k s)):=by kernel_rfl
theorem SE (s s':List UInt8) (i j n idx t y q:Int) (k k':Nat) (Ls D K es es':List AV) (N:Prop) (Q:AExit→St→Prop):aw Tryz.prog opts0 40 (jK (.str s'::I idx::ay t y q D K)) (ah Tryz.prog 99 4) (ed s i n k Ls es).st (bf 0 [(0,14)] (ed s j n k' Ls es') N [(0,0)] (ed s i n k Ls es) Q)=
  (ak (ar i n) (ax Tryz.prog 43 (AV.fsl false Ls) (I i)=some (vC D K idx q t y s')∧ak (aB s' s) (aC (bo 5 (iy D K q t y)&&(((k+ab (iy D K q t y))*72).ble 140737488355328&&(aS (flat (iy D K q t y))&&true))) (aC ((ab es).beq (k*5)) ((((iw s)∧(iv Ls)∧(iZ n)∧(I (af IntKind.i64 (i+1))=I j∧ac (I j)=true)∧True)∧((true=true∧some 14=some 14∧0=0∧k'=k+ab (iy D K q t y)∧5=5)∧True)∧(es++flat (iy D K q t y)=es'∧ad es'=true)∧True)∧N))) ((((iw s)∧(iv Ls)∧(iZ n)∧(I (af IntKind.i64 (i+1))=I j∧ac (I j)=true)∧True)∧((true=true∧some 14=some 0∧0=0∧k'=k∧5=5)∧True)∧False∧True)∧N)) (Gz Ls es Q i n k s)):=by kernel_rfl
def GB (s:List UInt8) (i n:Int) (Ls:List AV):bg:=fun st Q=>bR 0 [] (eF s 0 n Ls) st∧Q (.exit 0) (eF s i n Ls).st
def GC (s:List UInt8) (i n:Int) (k:Nat) (Ls es:List AV):bg:=fun st Q=>bR 0 [] (eF s 0 n Ls) st∧Q (.exit 0) (ed s i n k Ls es).st
@[simp] abbrev GD (Ls:List AV) (s:List UInt8):=(((iw s)∧vB∧(iv Ls)∧(I (Int.ofNat (ab Ls))=I (Int.ofNat (ab Ls))∧ac (I (Int.ofNat (ab Ls)))=true)∧(I 0=I 0∧true=true)∧True)∧True∧True)
theorem SF (s:List UInt8) (i:Int) (Ls:List AV) (Q:AV→ae→Prop):aL Tryz.prog opts0 40 (aq [] [(4,GB s i (.ofNat (ab Ls)) Ls)] aA [] []) 99 [.fsl false Ls,.str s] [] 0 (fun v H _=>Q v H)=
  ((GD Ls s)∧Q AV.nilsl []):=by kernel_rfl
theorem SG (s:List UInt8) (i:Int) (k:Nat) (Ls es:List AV) (Q:AV→ae→Prop):aL Tryz.prog opts0 40 (aq [] [(4,GC s i (.ofNat (ab Ls)) k Ls es)] aA [] []) 99 [.fsl false Ls,.str s] [] 0 (fun v H _=>Q v H)=
  ((GD Ls s)∧Q (AV.rsl true 0 0 k 5) [(0,some (Blk.cells es))]):=by kernel_rfl
def bG (s:List UInt8):List At→List It
 |[]=>[]
 |a::r=>match aB a.name s with
  |true=>a.v::bG s r
  |false=>bG s r
theorem sP (s:List UInt8) (a:At):∀l:List At,bG s (l++[a])=match aB a.name s with
  |true=>bG s l++[a.v]
  |false=>bG s l
 |[]=>by
  simp only[List.nil_append,bG]
 |b::r=>by
  have ih:=sP s a r
  simp only[List.cons_append,bG,ih]
  cases aB b.name s<;>cases aB a.name s<;>rfl
theorem pL (s:List UInt8):∀l:List At,(bG s l).length≤l.length
 |[]=>Nat.le_refl _
 |a::r=>by
  have:=pL s r
  simp only[bG]
  split
  ·simp only[List.length_cons];omega
  ·simp only[List.length_cons];omega
def pM (s:List UInt8) (i n:Int) (Ls:List AV):List It→View
 |[]=>eF s i n Ls
 |x::r=>ed s i n (r.length+1) Ls (flat (an (x::r)))
theorem sQ (l:List It):ad (flat (an l))=true:=zI (fF l) fun e he=>by
 rw[lr] at he
 obtain ⟨x,_,rfl⟩:=List.mem_map.1 he
 have:=sf x
 cases x
 exact this
theorem SH (l:List It) (x:It):an (l++[x])=an l++[bu x]:=by simp[lr]
theorem gZ {f:Bool} {l:List At} {i:Nat} {s:List UInt8} {k t y n:Int} {d:List UInt8} {ks:List It} (hx:l[i]? =some ⟨s,k,.mk t y n d ks⟩):ax Tryz.prog 43 (.fsl f (l.map ag)) (.int .i64 (.ofNat i))=some (.fptr (.str s::I k::ay t y n (ap d) (an ks)) 0):=
 fY (v:=ag ⟨s,k,.mk t y n d ks⟩) (e:=39) (sz:=7) (by kernel_rfl) (by kernel_rfl) (by rw[List.getElem?_map,hx];rfl) rfl
section
variable {s:List UInt8} {l:List At} {Q:AExit→St→Prop}
theorem SI {i:Nat} (hi:i=l.length) (out:List It) (hq:Q (.exit 0) (pM s (.ofNat i) (.ofNat l.length) (l.map ag) out).st):ALp Tryz.prog opts0.glob 0 (ah Tryz.prog 99 4) (pM s (.ofNat i) (.ofNat l.length) (l.map ag) out).st Q:=by
 have hL:=bP l
 have no:ar (Int.ofNat i) (Int.ofNat l.length)=true→False:=fun e=>by
  have e:=ltInt_iff.1 e
  subst hi
  simp only[Int.ofNat_eq_natCast] at e
  omega
 cases out with
 |nil=>
  refine ALp.round (A:=jK (.str []::I 0::ay 0 0 0 [] [])) (V2:=eF s 0 (.ofNat l.length) (l.map ag)) (F:=eF s (.ofNat i) (.ofNat l.length) (l.map ag)) (lk:=[]) (lk':=[]) base0 am (LsOk.no rfl) .refl ?_
  show aw Tryz.prog opts0 40 _ _ (eF s (.ofNat i) (.ofNat l.length) (l.map ag)).st _
  rw[Gy]
  exact az (fun e=>(no e).elim) fun _=>⟨⟨⟨⟨rfl,rfl⟩,⟨rfl,rfl⟩,⟨rfl,hL⟩,⟨rfl,rfl⟩,⟨rfl,rfl⟩,trivial⟩,trivial,trivial⟩,hq⟩
 |cons x r=>
  have hc:=sQ (x::r)
  refine ALp.round (A:=jK (.str []::I 0::ay 0 0 0 [] [])) (V2:=ed s 0 (.ofNat l.length) (r.length+1) (l.map ag) (flat (an (x::r)))) (F:=ed s (.ofNat i) (.ofNat l.length) (r.length+1) (l.map ag) (flat (an (x::r)))) (lk:=[(0,0)]) (lk':=[(0,0)]) base0 am (LsOk.no rfl) .refl ?_
  show aw Tryz.prog opts0 40 _ _ (ed s (.ofNat i) (.ofNat l.length) (r.length+1) (l.map ag) (flat (an (x::r)))).st _
  rw[GA]
  exact az (fun e=>(no e).elim) fun _=>⟨⟨⟨⟨rfl,rfl⟩,⟨rfl,hL⟩,⟨rfl,rfl⟩,⟨rfl,rfl⟩,trivial⟩,⟨⟨rfl,rfl,rfl,rfl,rfl⟩,trivial⟩,⟨rfl,hc⟩,trivial⟩,hq⟩
theorem SJ (hb:l.length≤100000) {i:Nat} {a:At} (g:l[i]? =some a) (out:List It) (ho:out.length≤i) (hn:ALp Tryz.prog opts0.glob 0 (ah Tryz.prog 99 4) (pM s (.ofNat (i+1)) (.ofNat l.length) (l.map ag) (match aB a.name s with|true=>out++[a.v]|false=>out)).st Q):ALp Tryz.prog opts0.glob 0 (ah Tryz.prog 99 4) (pM s (.ofNat i) (.ofNat l.length) (l.map ag) out).st Q:=by
 have hL:=bP l
 have hi:i<l.length:=(List.getElem?_eq_some_iff.1 g).1
 have yes:ar (Int.ofNat i) (Int.ofNat l.length)=true:=ltInt_iff.2 (by simp only[Int.ofNat_eq_natCast];omega)
 have hw:af .i64 (Int.ofNat i+1)=Int.ofNat (i+1):=co (by simp;omega) (by simp;omega)
 obtain ⟨s',idx,⟨t,y,q,dd,ks⟩⟩:=a
 have hx:=gZ (f:=false) g
 simp only at hn
 have e1:flat [.agg [I t,I y,I q,.fsl false (ap dd),.fsl false (an ks)]]=flat (an [(⟨t,y,q,dd,ks⟩:It)]):=rfl
 cases hb2:aB s' s with
 | false=>
  rw[hb2] at hn
  dsimp only at hn
  cases out with
  |nil=>
   refine ALp.round (A:=jK (.str s'::I idx::ay t y q (ap dd) (an ks))) (V2:=eF s (.ofNat (i+1)) (.ofNat l.length) (l.map ag)) (F:=eF s (.ofNat i) (.ofNat l.length) (l.map ag)) (lk:=[]) (lk':=[]) base0 am (LsOk.no rfl) .refl ?_
   show aw Tryz.prog opts0 40 _ _ (eF s (.ofNat i) (.ofNat l.length) (l.map ag)).st _
   rw[Gy,hw]
   exact a8 yes ⟨hx,bz hb2 ⟨⟨⟨⟨rfl,rfl⟩,⟨rfl,rfl⟩,⟨rfl,hL⟩,⟨rfl,rfl⟩,⟨rfl,rfl⟩,trivial⟩,trivial,trivial⟩,hn⟩⟩
  |cons x r=>
   have hc:=sQ (x::r)
   refine ALp.round (A:=jK (.str s'::I idx::ay t y q (ap dd) (an ks))) (V2:=ed s (.ofNat (i+1)) (.ofNat l.length) (r.length+1) (l.map ag) (flat (an (x::r)))) (F:=ed s (.ofNat i) (.ofNat l.length) (r.length+1) (l.map ag) (flat (an (x::r)))) (lk:=[(0,0)]) (lk':=[(0,0)]) base0 am (LsOk.no rfl) .refl ?_
   show aw Tryz.prog opts0 40 _ _ (ed s (.ofNat i) (.ofNat l.length) (r.length+1) (l.map ag) (flat (an (x::r)))).st _
   rw[GA,hw]
   exact a8 yes ⟨hx,bz hb2 ⟨⟨⟨⟨rfl,rfl⟩,⟨rfl,hL⟩,⟨rfl,rfl⟩,⟨rfl,rfl⟩,trivial⟩,⟨⟨rfl,rfl,rfl,rfl,rfl⟩,trivial⟩,⟨rfl,hc⟩,trivial⟩,hn⟩⟩
 | true=>
  rw[hb2] at hn
  dsimp only at hn
  cases out with
  |nil=>
   refine ALp.round (A:=jK (.str s'::I idx::ay t y q (ap dd) (an ks))) (V2:=ed s (.ofNat (i+1)) (.ofNat l.length) 1 (l.map ag) (flat (an [(⟨t,y,q,dd,ks⟩:It)]))) (F:=eF s (.ofNat i) (.ofNat l.length) (l.map ag)) (lk:=[(0,13)]) (lk':=[]) base0 am (LsOk.no rfl) .refl ?_
   show aw Tryz.prog opts0 40 _ _ (eF s (.ofNat i) (.ofNat l.length) (l.map ag)).st _
   rw[SD,hw]
   exact a8 yes ⟨hx,a8 hb2 ⟨⟨⟨⟨rfl,rfl⟩,⟨rfl,hL⟩,⟨rfl,rfl⟩,⟨rfl,rfl⟩,trivial⟩,⟨⟨rfl,rfl,rfl,rfl,rfl⟩,trivial⟩,⟨rfl,sQ _⟩,trivial⟩,hn⟩⟩
  |cons x r=>
   have hc:=sQ (x::r)
   have hE:flat (an ((x::r)++[(⟨t,y,q,dd,ks⟩:It)]))=flat (an (x::r))++flat [.agg [I t,I y,I q,.fsl false (ap dd),.fsl false (an ks)]]:=by rw[SH,gv];rfl
   have hn:ALp Tryz.prog opts0.glob 0 (ah Tryz.prog 99 4) (ed s (.ofNat (i+1)) (.ofNat l.length) ((r++[(⟨t,y,q,dd,ks⟩:It)]).length+1) (l.map ag) (flat (an ((x::r)++[(⟨t,y,q,dd,ks⟩:It)])))).st Q:=hn
   rw[List.length_append,List.length_singleton] at hn
   simp only[List.length_cons] at ho
   refine ALp.round (A:=jK (.str s'::I idx::ay t y q (ap dd) (an ks))) (V2:=ed s (.ofNat (i+1)) (.ofNat l.length) (r.length+1+1) (l.map ag) (flat (an ((x::r)++[(⟨t,y,q,dd,ks⟩:It)])))) (F:=ed s (.ofNat i) (.ofNat l.length) (r.length+1) (l.map ag) (flat (an (x::r)))) (lk:=[(0,14)]) (lk':=[(0,0)]) base0 am (LsOk.no rfl) .refl ?_
   show aw Tryz.prog opts0 40 _ _ (ed s (.ofNat i) (.ofNat l.length) (r.length+1) (l.map ag) (flat (an (x::r)))).st _
   rw[SE,hw]
   refine a8 yes ⟨hx,a8 hb2 (aH ?_ (aH ?_ ⟨⟨⟨⟨rfl,rfl⟩,⟨rfl,hL⟩,⟨rfl,rfl⟩,⟨rfl,rfl⟩,trivial⟩,⟨⟨rfl,rfl,rfl,rfl,rfl⟩,trivial⟩,⟨hE.symm,sQ _⟩,trivial⟩,hn⟩))⟩
   ·simp[bo,aS,flat,AV.cells,ab];omega
   ·rw[beq_iff,aI,EC];rfl
theorem GE (hb:l.length≤100000) (hq:Q (.exit 0) (pM s (.ofNat l.length) (.ofNat l.length) (l.map ag) (bG s l)).st):∀m i:Nat,i+m=l.length→ALp Tryz.prog opts0.glob 0 (ah Tryz.prog 99 4) (pM s (.ofNat i) (.ofNat l.length) (l.map ag) (bG s (l.take i))).st Q
 |0,i,hi=>by
  rw[Nat.add_zero] at hi
  subst hi
  rw[List.take_of_length_le (Nat.le_refl _)]
  exact SI rfl _ hq
 |m+1,i,hi=>by
  have hlt:i<l.length:=by omega
  have g:=List.getElem?_eq_getElem hlt
  have ih:=GE hb hq m (i+1) (by omega)
  rw[fg g,sP] at ih
  have h1:=pL s (l.take i)
  rw[List.length_take] at h1
  exact SJ hb g _ (by omega) ih
end
theorem GF:br (cy Tryz.prog 99) 4=[ah Tryz.prog 99 4]:=by kernel_rfl
set_option maxRecDepth 20000 in
theorem GG {l:List At} (hb:l.length≤100000) (s:List UInt8):SC 99 [.fsl false (l.map ag),.str s] (.fsl false (an (bG s l))):=by
 have hL:=bP l
 have hcl:ad [.fsl false (l.map ag),.str s]=true:=by simp only[ad,ac,hL,Bool.and_self]
 have hlen:ab (l.map ag)=l.length:=by rw[aI,List.length_map]
 have hrun:=fun (Q:AExit→St→Prop) hq=>GE (s:=s) (l:=l) (Q:=Q) hb hq l.length 0 (Nat.zero_add _)
 generalize bG s l=out at hrun⊢
 cases out with
 | nil=>
  refine dH (A:=aq [] [(4,GB s (.ofNat l.length) (.ofNat (ab (l.map ag))) (l.map ag))] aA [] []) base0 am
   (aN (LsOk.at1 rfl GF fun st Q hs=> .seen base0.glob hs.1 (by
    have h2:=hs.2
    rw[hlen] at h2⊢
    exact hrun Q h2))) hcl ?_
  rw[SF]
  exact ⟨⟨⟨⟨rfl,rfl⟩,⟨rfl,rfl⟩,⟨rfl,hL⟩,⟨rfl,rfl⟩,⟨rfl,rfl⟩,trivial⟩,trivial,trivial⟩,⟨.nilsl,(Frz.closed _ rfl).out,rfl,.nil⟩⟩
 | cons x r=>
  refine dH (A:=aq [] [(4,GC s (.ofNat l.length) (.ofNat (ab (l.map ag))) (r.length+1) (l.map ag) (flat (an (x::r))))] aA [] []) base0 am
   (aN (LsOk.at1 rfl GF fun st Q hs=> .seen base0.glob hs.1 (by
    have h2:=hs.2
    rw[hlen] at h2⊢
    exact hrun Q h2))) hcl ?_
  rw[SG]
  exact ⟨⟨⟨⟨rfl,rfl⟩,⟨rfl,rfl⟩,⟨rfl,hL⟩,⟨rfl,rfl⟩,⟨rfl,rfl⟩,trivial⟩,trivial,trivial⟩,⟨.fsl false (an (x::r)),(Frz.row rfl rfl rfl (by rw[gT];rfl) NJ (fF _)).out,fF _,.refl _⟩⟩
end
noncomputable section
theorem SK (s:List UInt8) (idx t y q:Int) (D K:List AV) (Q:AV→Prop):aL Tryz.prog opts0 40 ej 97 [.agg (.str s::I idx::ay t y q D K)] [] 0 (fun v _ _=>Q v)=
  (Q (AV.bool (aF y 9))):=by kernel_rfl
def i3 (i n:Int) (Ls O:List AV):View:=⟨[(1,.fsl false Ls),(4,.bool false),(7,.fsl false Ls),(8,I n),(9,I i)],[(2,.ptr 0 0)],[(0,.cells O,.whole)],1,32⟩
def isF:View:=⟨[(4,.bool false)],[],[],0,32⟩
def SL (b d c:Bool) (Vs As A:List AV):dj:=fun f _ _ _=>match Nat.beq f 97 with
 |true=>some (.val (.bool b))
 | false=>match Nat.beq f 99 with
  |true=>some (.val (.fsl false Vs))
  | false=>match Nat.beq f 98 with
   |true=>some (.val (.bool d))
   | false=>match Nat.beq f 32 with
    |true=>some (.val (.fsl false As))
    |false=>match Nat.beq f 100 with
     |true=>some (.part [4] (.bool c) [(4,some (.cells A))] 25)
     |false=>none
def nH (x:List AV) (b d c:Bool) (Vs As:List AV):be:=aq [(3,0,.res (.fptr x 0))] [] (SL b d c Vs As x) [] []
@[simp] abbrev pN (Ls:List AV):=(AV.fsl false Ls=AV.fsl false Ls∧ac (AV.fsl false Ls)=true)
@[simp] abbrev nJ:=(AV.bool false=AV.bool false∧true=true)
abbrev pO (D K:List AV) (idx q t y:Int) (s:List UInt8):=[AV.str s,I idx,I t,I y,I q,AV.fsl false D,AV.fsl false K]
@[simp] abbrev AE (C L M N:AV) (o:Ob):=((aa o M N L C)=(aa o M N L C)∧ad (aa o M N L C)=true)
@[simp] abbrev AF:=((some 0=some 0∧0=0)∧True)
theorem GH (i j n:Int) (Ls:List AV) (o:Ob) (M N L C:AV) (s:List UInt8) (idx t y q:Int) (D K Vs As:List AV) (d:Bool) (Nx:Prop) (Q:AExit→St→Prop):aw Tryz.prog opts0 40 (nH (.str s::I idx::ay t y q D K) true d false Vs As) (ah Tryz.prog 52 3) (i3 i n Ls (aa o M N L C)).st (bf 0 [(0,0)] (i3 j n Ls (aa o M N L C)) Nx [] isF Q)=
  (ak (ar i n) (ax Tryz.prog 43 (AV.fsl false Ls) (I i)=some (AV.fptr (pO D K idx q t y s) 0)∧SC 97 [AV.agg (pO D K idx q t y s)] (AV.bool true)∧SC 99 [AV.fsl false Ls,AV.str s] (AV.fsl false Vs)∧SC 98 [AV.agg (aa o M N L C),AV.str s,AV.fsl false Vs] (AV.bool d)∧ak (!d) (((nJ∧True)∧True∧True)∧Q AExit.ret isF.st) ((((pN Ls)∧nJ∧(pN Ls)∧(I n=I n∧ac (I n)=true)∧(I (af IntKind.i64 (i+1))=I j∧ac (I j)=true)∧True)∧AF∧(AE C L M N o)∧True)∧Nx)) (((nJ∧True)∧True∧True)∧Q (AExit.exit 0) isF.st)):=by kernel_rfl
theorem AG (i j n:Int) (Ls:List AV) (o:Ob) (M N L C:AV) (s:List UInt8) (idx t y q:Int) (D K Vs As:List AV) (c:Bool) (Nx:Prop) (Q:AExit→St→Prop):aw Tryz.prog opts0 40 (nH (.str s::I idx::ay t y q D K) false false c Vs As) (ah Tryz.prog 52 3) (i3 i n Ls (aa o M N L C)).st (bf 0 [(0,0)] (i3 j n Ls (aa o M N L C)) Nx [] isF Q)=
  (ak (ar i n) (ax Tryz.prog 43 (AV.fsl false Ls) (I i)=some (AV.fptr (pO D K idx q t y s) 0)∧SC 97 [AV.agg (pO D K idx q t y s)] (AV.bool false)∧SC 32 [AV.agg (aa o M N L C),AV.str s] (AV.fsl false As)∧BodySem Tryz.prog opts0.glob 100 [AV.fsl false As,AV.func (Fn.func 101) [] [AV.ptr 4 0]] [(4,some (Blk.cells (pO D K idx q t y s)))] 15 (AV.bool c) [(4,some (Blk.cells (pO D K idx q t y s)))] 40∧ak (!c) (((nJ∧True)∧True∧True)∧Q AExit.ret isF.st) ((((pN Ls)∧nJ∧(pN Ls)∧(I n=I n∧ac (I n)=true)∧(I (af IntKind.i64 (i+1))=I j∧ac (I j)=true)∧True)∧AF∧(AE C L M N o)∧True)∧Nx)) (((nJ∧True)∧True∧True)∧Q (AExit.exit 0) isF.st)):=by kernel_rfl
def vD (e:AExit) (n:Int) (Ls O:List AV):bg:=fun st Q=>bR 0 [(0,0)] (i3 0 n Ls O) st∧Q e isF.st
@[simp] abbrev GI (C L M N:AV) (Ls:List AV) (o:Ob):=(((pN Ls)∧nJ∧(pN Ls)∧(I (Int.ofNat (ab Ls))=I (Int.ofNat (ab Ls))∧ac (I (Int.ofNat (ab Ls)))=true)∧(I 0=I 0∧true=true)∧True)∧AF∧(AE C L M N o)∧True)
theorem SM (Ls:List AV) (o:Ob) (M N L C:AV) (Q:AV→Prop):aL Tryz.prog opts0 40 (aq [] [(3,vD .ret (.ofNat (ab Ls)) Ls (aa o M N L C))] aA [] []) 52 [.agg (aa o M N L C),.fsl false Ls] [] 0 (fun v _ _=>Q v)=
  ((GI C L M N Ls o)∧Q (AV.bool false)):=by kernel_rfl
theorem SN (Ls:List AV) (o:Ob) (M N L C:AV) (Q:AV→Prop):aL Tryz.prog opts0 40 (aq [] [(3,vD (.exit 0) (.ofNat (ab Ls)) Ls (aa o M N L C))] aA [] []) 52 [.agg (aa o M N L C),.fsl false Ls] [] 0 (fun v _ _=>Q v)=
  ((GI C L M N Ls o)∧Q (AV.bool true)):=by kernel_rfl
def GJ (c:Bool) (As:List AV) (a b:Int):dj:=fun f _ _ _=>match Nat.beq f 32 with
 |true=>some (.val (.fsl false As))
 |false=>match Nat.beq f 100 with
  |true=>some (.part [13,14] (.bool c) [(13,some (.cells [.int .i64 a])),(14,some (.cells [.int .i64 b]))] 25)
  |false=>none
theorem SO (o:Ob) (M N L C:AV) (s:List UInt8) (Ws As:List AV) (t y q t' y' q':Int) (D K D' K':List AV) (c:Bool) (Q:AV→Prop):aL Tryz.prog opts0 40 (aq [(1,1,.res (.fptr (ay t y q D K) 0)),(1,8,.res (.fptr (ay t' y' q' D' K') 0))] [] (GJ c As q q') [] []) 98 [.agg (aa o M N L C),.str s,.fsl false Ws] [] 0 (fun v _ _=>Q v)=
  (ax Tryz.prog 35 (AV.fsl false Ws) (I 0)=some (AV.fptr [I t,I y,I q,AV.fsl false D,AV.fsl false K] 0)∧ax Tryz.prog 35 (AV.fsl false Ws) (I (af IntKind.i64 (Int.ofNat (ab Ws)-1)))=some (AV.fptr [I t',I y',I q',AV.fsl false D',AV.fsl false K'] 0)∧SC 32 [AV.agg (aa o M N L C),AV.str s] (AV.fsl false As)∧BodySem Tryz.prog opts0.glob 100 [AV.fsl false As,AV.func (Fn.func 142) [] [AV.ptr 13 0,AV.ptr 14 0]] [(14,some (Blk.cells [I q'])),(13,some (Blk.cells [I q]))] 23 (AV.bool c) [(13,some (Blk.cells [I q])),(14,some (Blk.cells [I q']))] 48∧Q (AV.bool c)):=by kernel_rfl
end
noncomputable section
def nK (As:List AV) (n i:Int) (s':List UInt8) (idx' t' y' q':Int) (D' K':List AV):View:=⟨[(0,.fsl false As),(4,I 0),(7,I n),(8,I i)],[(1,.func (.func 101) [] [.ptr 4 0])],[(4,.cells (.str s'::I idx'::ay t' y' q' D' K'),.whole)],25,19⟩
def i4 (s':List UInt8) (idx' t' y' q':Int) (D' K':List AV) (r:Int):View:=⟨[(4,I r)],[],[(4,.cells (.str s'::I idx'::ay t' y' q' D' K'),.whole)],80,19⟩
abbrev lL (D' K':List AV) (idx' q' t' y':Int) (s':List UInt8):=[AV.str s',I idx',I t',I y',I q',AV.fsl false D',AV.fsl false K']
@[simp] abbrev sR (D' K':List AV) (idx' q' t' y':Int) (s':List UInt8):=((lL D' K' idx' q' t' y' s')=(lL D' K' idx' q' t' y' s')∧ad (lL D' K' idx' q' t' y' s')=true)
@[simp] abbrev AH:=(((Fn.func 101=Fn.func 101∧([]:List AV)=[]∧true=true)∧(some 4=some 4∧0=0)∧True)∧True)
@[simp] abbrev sS (As:List AV):=(AV.fsl false As=AV.fsl false As∧ac (AV.fsl false As)=true)
@[simp] abbrev pP:=(I 0=I 0∧true=true)
@[simp] abbrev vE (i r:Int):=((I i=I r∧ac (I r)=true)∧True)
@[simp] abbrev vF (n:Int):=(I n=I n∧ac (I n)=true)
@[simp] abbrev AJ (r:Int):=((I 0=I r∧ac (I r)=true)∧True)
abbrev vG (D K:List AV) (idx q t y:Int) (s:List UInt8):=[AV.str s,I idx,I t,I y,I q,AV.fsl false D,AV.fsl false K]
theorem AK (As:List AV) (n i j r:Int) (s:List UInt8) (idx t y q:Int) (D K:List AV) (s':List UInt8) (idx' t' y' q':Int) (D' K':List AV) (b:Bool) (N:Prop) (Q:AExit→St→Prop):aw Tryz.prog opts0 40 (aq [(4,3,.res (.fptr (.str s::I idx::ay t y q D K) 0))] [] (cz [(33,.bool b)]) [] [101]) (ah Tryz.prog 143 3) (nK As n i s' idx' t' y' q' D' K').st (bf 21 (cr 21) (nK As n j s' idx' t' y' q' D' K') N (cr 21) (i4 s' idx' t' y' q' D' K' r) Q)=
  (ak (ar i n) (ax Tryz.prog 43 (AV.fsl false As) (I i)=some (AV.fptr (vG D K idx q t y s) 0)∧SC 33 [AV.agg [I t,I y,I q,AV.fsl false D,AV.fsl false K],AV.agg [I t',I y',I q',AV.fsl false D',AV.fsl false K']] (AV.bool b)∧ak b (((vE i r)∧True∧(sR D' K' idx' q' t' y' s')∧True)∧Q AExit.ret (i4 s' idx' t' y' q' D' K' r).st) ((((sS As)∧pP∧(vF n)∧(I (af IntKind.i64 (i+1))=I j∧ac (I j)=true)∧True)∧AH∧(sR D' K' idx' q' t' y' s')∧True)∧N)) (((AJ r)∧True∧(sR D' K' idx' q' t' y' s')∧True)∧Q (AExit.exit 0) (i4 s' idx' t' y' q' D' K' r).st)):=by kernel_rfl
def vH (e:AExit) (n r:Int) (As:List AV) (s':List UInt8) (idx' t' y' q':Int) (D' K':List AV):bg:=fun st Q=>bR 21 (cr 21) (nK As n 0 s' idx' t' y' q' D' K') st∧Q e (i4 s' idx' t' y' q' D' K' r).st
@[simp] abbrev pQ (As:List AV):=((sS As)∧pP∧(I (Int.ofNat (ab As))=I (Int.ofNat (ab As))∧ac (I (Int.ofNat (ab As)))=true)∧pP∧True)
theorem SP (As:List AV) (s':List UInt8) (idx' t' y' q':Int) (D' K':List AV) (Q:AV→ae→Nat→Prop):aL Tryz.prog opts0 40 (aq [] [(3,vH (.exit 0) (.ofNat (ab As)) 0 As s' idx' t' y' q' D' K')] aA [] []) 143 [.fsl false As,.func (.func 101) [] [.ptr 4 0]] [(4,some (.cells (.str s'::I idx'::ay t' y' q' D' K')))] 21 Q=
  (((pQ As)∧AH∧(sR D' K' idx' q' t' y' s')∧True)∧Q (I (Int.negSucc 0)) [(4,some (Blk.cells (lL D' K' idx' q' t' y' s')))] 81):=by kernel_rfl
theorem SQ (As:List AV) (r:Int) (s':List UInt8) (idx' t' y' q':Int) (D' K':List AV) (Q:AV→ae→Nat→Prop):aL Tryz.prog opts0 40 (aq [] [(3,vH .ret (.ofNat (ab As)) r As s' idx' t' y' q' D' K')] aA [] []) 143 [.fsl false As,.func (.func 101) [] [.ptr 4 0]] [(4,some (.cells (.str s'::I idx'::ay t' y' q' D' K')))] 21 Q=
  (((pQ As)∧AH∧(sR D' K' idx' q' t' y' s')∧True)∧Q (I r) [(4,some (Blk.cells (lL D' K' idx' q' t' y' s')))] 80):=by kernel_rfl
def GK (r:Int) (s':List UInt8) (idx' t' y' q':Int) (D' K':List AV):dj:=fun f _ _ _=>match Nat.beq f 143 with
 |true=>some (.part [4] (I r) [(4,some (.cells (.str s'::I idx'::ay t' y' q' D' K')))] 100)
 |false=>none
theorem SR (As:List AV) (r:Int) (s':List UInt8) (idx' t' y' q':Int) (D' K':List AV) (Q:AV→ae→Nat→Prop):aL Tryz.prog opts0 40 (aq [] [] (GK r s' idx' t' y' q' D' K') [] []) 100 [.fsl false As,.func (.func 101) [] [.ptr 4 0]] [(4,some (.cells (.str s'::I idx'::ay t' y' q' D' K')))] 15 Q=
  (BodySem Tryz.prog opts0.glob 143 [AV.fsl false As,AV.func (Fn.func 101) [] [AV.ptr 4 0]] [(4,some (Blk.cells (lL D' K' idx' q' t' y' s')))] 21 (I r) [(4,some (Blk.cells (lL D' K' idx' q' t' y' s')))] 121∧Q (AV.bool !ar r 0) [(4,some (Blk.cells (lL D' K' idx' q' t' y' s')))] 121):=by kernel_rfl
def nL (As:List AV) (n i:Int) (least most:Int):View:=⟨[(0,.fsl false As),(4,I 0),(7,I n),(8,I i)],[(1,.func (.func 142) [] [.ptr 4 0,.ptr 5 0])],[(4,.cells [I least],.whole),(5,.cells [I most],.whole)],25,19⟩
def i5 (least most:Int) (r:Int):View:=⟨[(4,I r)],[],[(4,.cells [I least],.whole),(5,.cells [I most],.whole)],80,19⟩
@[simp] abbrev vI:=(((Fn.func 142=Fn.func 142∧([]:List AV)=[]∧true=true)∧(some 4=some 4∧0=0)∧(some 5=some 5∧0=0)∧True)∧True)
@[simp] abbrev pR (least:Int):=([I least]=[I least]∧ad [I least]=true)
@[simp] abbrev pS (most:Int):=([I most]=[I most]∧ad [I most]=true)
theorem AL (As:List AV) (n i j r:Int) (s:List UInt8) (idx t y q:Int) (D K:List AV) (least most:Int) (N:Prop) (Q:AExit→St→Prop):aw Tryz.prog opts0 40 (aq [(4,3,.res (.fptr (.str s::I idx::ay t y q D K) 0))] [] aA [] [142]) (ah Tryz.prog 143 3) (nL As n i least most).st (bf 21 (cr 21) (nL As n j least most) N (cr 21) (i5 least most r) Q)=
  (ak (ar i n) (ax Tryz.prog 43 (AV.fsl false As) (I i)=some (AV.fptr (vG D K idx q t y s) 0)∧ak (!ar q least) (ak (!ar most q) (((vE i r)∧True∧(pR least)∧(pS most)∧True)∧Q AExit.ret (i5 least most r).st) ((((sS As)∧pP∧(vF n)∧(I (af IntKind.i64 (i+1))=I j∧ac (I j)=true)∧True)∧vI∧(pR least)∧(pS most)∧True)∧N)) ((((sS As)∧pP∧(vF n)∧(I (af IntKind.i64 (i+1))=I j∧ac (I j)=true)∧True)∧vI∧(pR least)∧(pS most)∧True)∧N)) (((AJ r)∧True∧(pR least)∧(pS most)∧True)∧Q (AExit.exit 0) (i5 least most r).st)):=by kernel_rfl
def vJ (e:AExit) (n r:Int) (As:List AV) (least most:Int):bg:=fun st Q=>bR 21 (cr 21) (nL As n 0 least most) st∧Q e (i5 least most r).st
abbrev pT (most:Int):=(5,some (Blk.cells [I most]))
theorem SS (As:List AV) (least most:Int) (Q:AV→ae→Nat→Prop):aL Tryz.prog opts0 40 (aq [] [(3,vJ (.exit 0) (.ofNat (ab As)) 0 As least most)] aA [] []) 143 [.fsl false As,.func (.func 142) [] [.ptr 4 0,.ptr 5 0]] [(4,some (.cells [I least])),(5,some (.cells [I most]))] 21 Q=
  (((pQ As)∧vI∧(pR least)∧(pS most)∧True)∧Q (I (Int.negSucc 0)) [(4,some (Blk.cells [I least])),(pT most)] 81):=by kernel_rfl
theorem ST (As:List AV) (r:Int) (least most:Int) (Q:AV→ae→Nat→Prop):aL Tryz.prog opts0 40 (aq [] [(3,vJ .ret (.ofNat (ab As)) r As least most)] aA [] []) 143 [.fsl false As,.func (.func 142) [] [.ptr 4 0,.ptr 5 0]] [(4,some (.cells [I least])),(5,some (.cells [I most]))] 21 Q=
  (((pQ As)∧vI∧(pR least)∧(pS most)∧True)∧Q (I r) [(4,some (Blk.cells [I least])),(pT most)] 80):=by kernel_rfl
def GL (r:Int) (least most:Int):dj:=fun f _ _ _=>match Nat.beq f 143 with
 |true=>some (.part [4,5] (I r) [(4,some (.cells [I least])),(5,some (.cells [I most]))] 100)
 |false=>none
theorem SU (As:List AV) (r:Int) (least most:Int) (Q:AV→ae→Nat→Prop):aL Tryz.prog opts0 40 (aq [] [] (GL r least most) [] []) 100 [.fsl false As,.func (.func 142) [] [.ptr 4 0,.ptr 5 0]] [(4,some (.cells [I least])),(5,some (.cells [I most]))] 15 Q=
  (BodySem Tryz.prog opts0.glob 143 [AV.fsl false As,AV.func (Fn.func 142) [] [AV.ptr 4 0,AV.ptr 5 0]] [(pT most),(4,some (Blk.cells [I least]))] 21 (I r) [(4,some (Blk.cells [I least])),(pT most)] 121∧Q (AV.bool !ar r 0) [(pT most),(4,some (Blk.cells [I least])),(pT most)] 121):=by kernel_rfl
def nM (As:List AV) (n i:Int) (Ls:List AV):View:=⟨[(0,.fsl false As),(4,I 0),(7,I n),(8,I i)],[(1,.func (.func 105) [] [.ptr 4 0])],[(4,.cells [.fsl false Ls],.whole)],25,19⟩
def iz (Ls:List AV) (r:Int):View:=⟨[(4,I r)],[],[(4,.cells [.fsl false Ls],.whole)],80,19⟩
@[simp] abbrev pU (Ls:List AV):=([AV.fsl false Ls]=[AV.fsl false Ls]∧ad [AV.fsl false Ls]=true)
@[simp] abbrev AM:=(((Fn.func 105=Fn.func 105∧([]:List AV)=[]∧true=true)∧(some 4=some 4∧0=0)∧True)∧True)
theorem AN (As:List AV) (n i j r:Int) (s:List UInt8) (idx t y q:Int) (D K:List AV) (Ls:List AV) (b c:Bool) (N:Prop) (Q:AExit→St→Prop):aw Tryz.prog opts0 40 (aq [(4,3,.res (.fptr (.str s::I idx::ay t y q D K) 0))] [] (cz [(46,.bool b),(106,.bool c)]) [] [105]) (ah Tryz.prog 143 3) (nM As n i Ls).st (bf 21 (cr 21) (nM As n j Ls) N (cr 21) (iz Ls r) Q)=
  (ak (ar i n) (ax Tryz.prog 43 (AV.fsl false As) (I i)=some (AV.fptr (vG D K idx q t y s) 0)∧SC 46 [AV.str s] (AV.bool b)∧ak (!b) (((vE i r)∧True∧(pU Ls)∧True)∧Q AExit.ret (iz Ls r).st) (SC 106 [AV.agg (vG D K idx q t y s),AV.fsl false Ls] (AV.bool c)∧ak (!c) (((vE i r)∧True∧(pU Ls)∧True)∧Q AExit.ret (iz Ls r).st) ((((sS As)∧pP∧(vF n)∧(I (af IntKind.i64 (i+1))=I j∧ac (I j)=true)∧True)∧AM∧(pU Ls)∧True)∧N))) (((AJ r)∧True∧(pU Ls)∧True)∧Q (AExit.exit 0) (iz Ls r).st)):=by kernel_rfl
def vK (e:AExit) (n r:Int) (As:List AV) (Ls:List AV):bg:=fun st Q=>bR 21 (cr 21) (nM As n 0 Ls) st∧Q e (iz Ls r).st
abbrev sT (Ls:List AV):=[(4,some (Blk.cells [AV.fsl false Ls]))]
theorem SV (As:List AV) (Ls:List AV) (Q:AV→ae→Nat→Prop):aL Tryz.prog opts0 40 (aq [] [(3,vK (.exit 0) (.ofNat (ab As)) 0 As Ls)] aA [] []) 143 [.fsl false As,.func (.func 105) [] [.ptr 4 0]] [(4,some (.cells [.fsl false Ls]))] 21 Q=
  (((pQ As)∧AM∧(pU Ls)∧True)∧Q (I (Int.negSucc 0)) (sT Ls) 81):=by kernel_rfl
theorem SW (As:List AV) (r:Int) (Ls:List AV) (Q:AV→ae→Nat→Prop):aL Tryz.prog opts0 40 (aq [] [(3,vK .ret (.ofNat (ab As)) r As Ls)] aA [] []) 143 [.fsl false As,.func (.func 105) [] [.ptr 4 0]] [(4,some (.cells [.fsl false Ls]))] 21 Q=
  (((pQ As)∧AM∧(pU Ls)∧True)∧Q (I r) (sT Ls) 80):=by kernel_rfl
def GM (r:Int) (Ls:List AV):dj:=fun f _ _ _=>match Nat.beq f 143 with
 |true=>some (.part [4] (I r) [(4,some (.cells [.fsl false Ls]))] 100)
 |false=>none
theorem SX (As:List AV) (r:Int) (Ls:List AV) (Q:AV→ae→Nat→Prop):aL Tryz.prog opts0 40 (aq [] [] (GM r Ls) [] []) 100 [.fsl false As,.func (.func 105) [] [.ptr 4 0]] [(4,some (.cells [.fsl false Ls]))] 15 Q=
  (BodySem Tryz.prog opts0.glob 143 [AV.fsl false As,AV.func (Fn.func 105) [] [AV.ptr 4 0]] (sT Ls) 21 (I r) (sT Ls) 121∧Q (AV.bool !ar r 0) (sT Ls) 121):=by kernel_rfl
end
end Go.Proofs.YtjhggnebkfpgcaaGreatDoor
namespace Go.Proofs.YtjhggnebkfpgcaaGreatDoor
set_option maxRecDepth 20000
open Go Go.RowKit
open Go.Proofs.Abs
def pA (v:It) (a:At):Bool:=dG a.v v
def pB (least most:Int) (a:At):Bool:= !ar (bM a.v) least&& !ar most (bM a.v)
def pD (kn:List UInt8→Bool) (rt:At→Bool) (a:At):Bool:= !kn a.name|| !rt a
def db:It→Int| .mk t _ _ _ _=>t
def bN:It→Int| .mk _ y _ _ _=>y
theorem GN:∀g l,opts0.glob g=some l→ad l=true:=base0.glob
section
variable {f:FuncId} {args args2:List AV} {v:AV} {es es2:List AV} {nx nx' K K2 m m':Nat} {H2:ae}
theorem GO (h:BodySem Tryz.prog opts0.glob f args [(4,some (.cells es))] nx v [(4,some (.cells es))] nx') (g1:hget H2 K=some (.cells es)) (hA:RenL [(4,K)] args args2) (hv:ac v=true) (c1:ad es=true) (hx:4<nx) (hm:m≤m'):BodySem Tryz.prog opts0.glob f args2 H2 m v [(K,some (.cells es))] m':=by
 refine BodySem.ren (lk:=[(4,K)]) GN h (by simp) (by simp) (fun p hp=> ?_) hA (fun i b hb=> ?_) (.same _ hv) (fun j b hb=> ?_) hm
 ·simp only[List.mem_cons,List.not_mem_nil,or_false] at hp
  subst hp
  exact .inl hx
 ·simp only[hget] at hb
  split at hb
  ·rename_i e
   have e:=beq_iff.1 e
   subst e
   cases hb
   exact ⟨K,.cells es,rfl,g1,RenL.same _ c1⟩
  ·cases hb
 ·simp only[hget] at hb
  split at hb
  ·rename_i e
   have e:=beq_iff.1 e
   subst e
   cases hb
   exact ⟨4,.cells es,by simp[cZ,aY],rfl,RenL.same _ c1⟩
  ·cases hb
theorem GP (h:BodySem Tryz.prog opts0.glob f args [(4,some (.cells es)),(5,some (.cells es2))] nx v [(4,some (.cells es)),(5,some (.cells es2))] nx') (hK:K≠K2) (g1:hget H2 K=some (.cells es)) (g2:hget H2 K2=some (.cells es2)) (hA:RenL [(4,K),(5,K2)] args args2) (hv:ac v=true) (c1:ad es=true) (c2:ad es2=true) (hx:5<nx) (hm:m≤m'):BodySem Tryz.prog opts0.glob f args2 H2 m v [(K,some (.cells es)),(K2,some (.cells es2))] m':=by
 have hk:Nat.beq K K2=false:=beq_false_iff.2 hK
 refine BodySem.ren (lk:=[(4,K),(5,K2)]) GN h (by simp) (by simp[hK]) (fun p hp=> ?_) hA (fun i b hb=> ?_) (.same _ hv) (fun j b hb=> ?_) hm
 ·simp only[List.mem_cons,List.not_mem_nil,or_false] at hp
  rcases hp with rfl|rfl
  ·exact .inl (by simp only;omega)
  ·exact .inl hx
 ·simp only[hget] at hb
  split at hb
  ·rename_i e
   have e:=beq_iff.1 e
   subst e
   cases hb
   exact ⟨K,.cells es,rfl,g1,RenL.same _ c1⟩
  split at hb
  ·rename_i e
   have e:=beq_iff.1 e
   subst e
   cases hb
   exact ⟨K2,.cells es2,rfl,g2,RenL.same _ c2⟩
  ·cases hb
 ·simp only[hget] at hb
  split at hb
  ·rename_i e
   have e:=beq_iff.1 e
   subst e
   cases hb
   exact ⟨4,.cells es,by simp[cZ,aY],rfl,RenL.same _ c1⟩
  split at hb
  ·rename_i e
   have e:=beq_iff.1 e
   subst e
   cases hb
   exact ⟨5,.cells es2,by simp[cZ,aY,hk],rfl,RenL.same _ c2⟩
  ·cases hb
end
theorem vL {c d:List AV} {fn:Fn} {lk:List (Nat × Nat)} (h:RenL lk c d):cw lk (.func fn [] c) (.func fn [] d):= .func _ _ _ _ rfl (yq h) (renL_get h)
 where
  renL_get:∀ {c d:List AV} {lk:List (Nat × Nat)},RenL lk c d→∀ (i:Nat) x y,c[i]? =some x→d[i]? =some y→cw lk x y
    |[],[],_,_,i,x,y,h,_=>by simp at h
    | a::t,b::u,lk,h,0,x,y,hx,hy=>by
      simp only[List.getElem?_cons_zero,Option.some.injEq] at hx hy
      subst hx;subst hy;exact h.1
    |a::t,b::u,lk,h,i+1,x,y,hx,hy=>renL_get h.2 i x y (by simpa using hx) (by simpa using hy)
def eQ (p:At→Bool):List At→Nat→Option Nat
 |[],_=>none
 |a::r,i=>match p a with
  |true=>some i
  |false=>eQ p r (i+1)
def AO (x:Option Nat) (S:Nat→Prop) (E:Prop):Prop:=match x with
 |some j=>S j
 |none=>E
theorem vM (p:At→Bool):∀ (l:List At) (i:Nat),(match eQ p l i with|some _=>true|none=>false)=l.any p
 |[],_=>rfl
 |a::r,i=>by
  rw[eQ,List.any_cons]
  cases p a with
  |true=>rfl
  |false=>exact vM p r (i+1)
def lM (x:Option Nat):Int:=match x with
 |some j=> .ofNat j
 |none=> -1
theorem oO (s:List UInt8) (i:Int) (v:It):ad (.str s::I i::ay (db v) (bN v) (bM v) (ap (cL v)) (an (cT v)))=true:=by
 have:=jB ⟨s,i,v⟩
 obtain ⟨t,y,n,d,ks⟩:=v
 exact this
theorem AP (x:Option Nat):(!ar (lM x) 0)=(match x with|some _=>true|none=>false):=by
 cases x with
 |none=>rfl
 |some j=>
  rw[lM,ltInt_false.2 (by simp only[Int.ofNat_eq_natCast];omega)]
  rfl
section
variable {l:List At} {S0:List UInt8} {X0:Int} {v:It} {Q:AExit→St→Prop}
theorem SY (hok:∀a∈l,dF cD a.v) (hb:l.length≤100000):∀m i,i+m=l.length→AO (eQ (pA v) (l.drop i) i) (fun j=>Q .ret (i4 S0 X0 (db v) (bN v) (bM v) (ap (cL v)) (an (cT v)) (.ofNat j)).st) (Q (.exit 0) (i4 S0 X0 (db v) (bN v) (bM v) (ap (cL v)) (an (cT v)) 0).st)→
  ALp Tryz.prog opts0.glob 21 (ah Tryz.prog 143 3) (nK (l.map ag) (.ofNat l.length) (.ofNat i) S0 X0 (db v) (bN v) (bM v) (ap (cL v)) (an (cT v))).st Q:=by
 have hL:=bP l
 have hA:ad (.str S0::I X0::ay (db v) (bN v) (bM v) (ap (cL v)) (an (cT v)))=true:=oO S0 X0 v
 intro m
 induction m with
 |zero=>
  intro i hi hq
  rw[Nat.add_zero] at hi
  subst hi
  rw[List.drop_of_length_le (Nat.le_refl _)] at hq
  have hq:Q (.exit 0) (i4 S0 X0 (db v) (bN v) (bM v) (ap (cL v)) (an (cT v)) 0).st:=hq
  refine ALp.round (A:=aq [(4,3,.res (.fptr (.str []::I 0::ay 0 0 0 [] []) 0))] [] (cz [(33,.bool false)]) [] [101]) (V2:=nK (l.map ag) (.ofNat l.length) 0 S0 X0 (db v) (bN v) (bM v) (ap (cL v)) (an (cT v))) (F:=i4 S0 X0 (db v) (bN v) (bM v) (ap (cL v)) (an (cT v)) 0) (lk:=cr 21) (lk':=cr 21) base0 am (LsOk.no rfl) .refl ?_
  rw[AK]
  refine bz (ltInt_false.2 (by simp only[Int.ofNat_eq_natCast];omega)) ⟨⟨⟨⟨rfl,rfl⟩,trivial⟩,trivial,⟨rfl,hA⟩,trivial⟩,hq⟩
 | succ m ih=>
  intro i hi hq
  have hlt:i<l.length:=by omega
  have g:=List.getElem?_eq_getElem hlt
  have hm:=List.getElem_mem hlt
  have ih:=ih (i+1) (by omega)
  rw[List.drop_eq_getElem_cons hlt,eQ] at hq
  revert hq g hm
  generalize l[i]=a
  intro hq g hm
  have yes:ar (Int.ofNat i) (Int.ofNat l.length)=true:=ltInt_iff.2 (by simp only[Int.ofNat_eq_natCast];omega)
  have hw:af .i64 (Int.ofNat i+1)=Int.ofNat (i+1):=co (by simp;omega) (by simp;omega)
  have hsm:=Ft a.v v (hok a hm)
  obtain ⟨s,idx,⟨t,y,q,d,ks⟩⟩:=a
  have hx:=gZ (f:=false) g
  cases hp:(pA v) ⟨s,idx,⟨t,y,q,d,ks⟩⟩ with
  |true=>
   rw[hp] at hq
   have hq:Q .ret (i4 S0 X0 (db v) (bN v) (bM v) (ap (cL v)) (an (cT v)) (.ofNat i)).st:=hq
   refine ALp.round (A:=aq [(4,3,.res (.fptr (.str s::I idx::ay t y q (ap d) (an ks)) 0))] [] (cz [(33,.bool true)]) [] [101]) (V2:=nK (l.map ag) (.ofNat l.length) 0 S0 X0 (db v) (bN v) (bM v) (ap (cL v)) (an (cT v))) (F:=i4 S0 X0 (db v) (bN v) (bM v) (ap (cL v)) (an (cT v)) (.ofNat i)) (lk:=cr 21) (lk':=cr 21) base0 am (LsOk.no rfl) .refl ?_
   rw[AK]
   obtain ⟨t',y',q',d',ks'⟩:=v
   have hp:dG ⟨t,y,q,d,ks⟩ ⟨t',y',q',d',ks'⟩=true:=hp
   simp only[hp] at hsm
   exact a8 yes ⟨hx,hsm,a8 rfl ⟨⟨⟨⟨rfl,rfl⟩,trivial⟩,trivial,⟨rfl,hA⟩,trivial⟩,hq⟩⟩
  |false=>
   rw[hp] at hq
   have ih:=ih hq
   refine ALp.round (A:=aq [(4,3,.res (.fptr (.str s::I idx::ay t y q (ap d) (an ks)) 0))] [] (cz [(33,.bool false)]) [] [101]) (V2:=nK (l.map ag) (.ofNat l.length) (.ofNat (i+1)) S0 X0 (db v) (bN v) (bM v) (ap (cL v)) (an (cT v))) (F:=i4 S0 X0 (db v) (bN v) (bM v) (ap (cL v)) (an (cT v)) 0) (lk:=cr 21) (lk':=cr 21) base0 am (LsOk.no rfl) .refl ?_
   rw[AK,hw]
   obtain ⟨t',y',q',d',ks'⟩:=v
   have hp:dG ⟨t,y,q,d,ks⟩ ⟨t',y',q',d',ks'⟩=false:=hp
   simp only[hp] at hsm
   exact a8 yes ⟨hx,hsm,bz rfl ⟨⟨⟨⟨rfl,hL⟩,⟨rfl,rfl⟩,⟨rfl,rfl⟩,⟨rfl,rfl⟩,trivial⟩,⟨⟨⟨rfl,rfl,rfl⟩,⟨rfl,rfl⟩,trivial⟩,trivial⟩,⟨rfl,hA⟩,trivial⟩,ih⟩⟩
end
theorem GQ:br (cy Tryz.prog 143) 3=[ah Tryz.prog 143 3]:=by kernel_rfl
theorem SZ {l:List At} {S0:List UInt8} {X0:Int} {v:It} (hok:∀a∈l,dF cD a.v) (hb:l.length≤100000):BodySem Tryz.prog opts0.glob 143 [.fsl false (l.map ag),.func (.func 101) [] [.ptr 4 0]] [(4,some (.cells (.str S0::I X0::ay (db v) (bN v) (bM v) (ap (cL v)) (an (cT v)))))] 21 (I (lM (eQ (pA v) l 0))) [(4,some (.cells (.str S0::I X0::ay (db v) (bN v) (bM v) (ap (cL v)) (an (cT v)))))] 121:=by
 have hL:=bP l
 have hA:ad (.str S0::I X0::ay (db v) (bN v) (bM v) (ap (cL v)) (an (cT v)))=true:=oO S0 X0 v
 have hlen:ab (l.map ag)=l.length:=by rw[aI,List.length_map]
 have hrun:=fun (Q:AExit→St→Prop)=>SY (l:=l) (Q:=Q) (S0:=S0) (X0:=X0) (v:=v) hok hb l.length 0 (Nat.zero_add _)
 rw[List.drop_zero] at hrun
 generalize eQ (pA v) l 0=r at hrun⊢
 cases r with
 | none=>
  refine ei (k:=20) (A:=aq [] [(3,vH (.exit 0) (.ofNat l.length) 0 (l.map ag) S0 X0 (db v) (bN v) (bM v) (ap (cL v)) (an (cT v)))] aA [] []) base0 am
   (aN (LsOk.at1 rfl GQ fun st Q hs=> .seen base0.glob hs.1 (hrun Q hs.2))) ?_
  rw[←hlen,SP]
  exact ⟨⟨⟨⟨rfl,hL⟩,⟨rfl,rfl⟩,⟨rfl,rfl⟩,⟨rfl,rfl⟩,trivial⟩,⟨⟨⟨rfl,rfl,rfl⟩,⟨rfl,rfl⟩,trivial⟩,trivial⟩,⟨rfl,hA⟩,trivial⟩,⟨rfl,⟨_,Frz.closed _ rfl,.refl _⟩,⟨rfl,.cells (.str S0::I X0::ay (db v) (bN v) (bM v) (ap (cL v)) (an (cT v))),.cells (.str S0::I X0::ay (db v) (bN v) (bM v) (ap (cL v)) (an (cT v))),rfl,FrzL.closed _ hA,WkL.refl _⟩,trivial⟩⟩
 | some j=>
  refine ei (k:=20) (A:=aq [] [(3,vH .ret (.ofNat l.length) (.ofNat j) (l.map ag) S0 X0 (db v) (bN v) (bM v) (ap (cL v)) (an (cT v)))] aA [] []) base0 am
   (aN (LsOk.at1 rfl GQ fun st Q hs=> .seen base0.glob hs.1 (hrun Q hs.2))) ?_
  rw[←hlen,SQ]
  exact ⟨⟨⟨⟨rfl,hL⟩,⟨rfl,rfl⟩,⟨rfl,rfl⟩,⟨rfl,rfl⟩,trivial⟩,⟨⟨⟨rfl,rfl,rfl⟩,⟨rfl,rfl⟩,trivial⟩,trivial⟩,⟨rfl,hA⟩,trivial⟩,⟨rfl,⟨_,Frz.closed _ rfl,.refl _⟩,⟨rfl,.cells (.str S0::I X0::ay (db v) (bN v) (bM v) (ap (cL v)) (an (cT v))),.cells (.str S0::I X0::ay (db v) (bN v) (bM v) (ap (cL v)) (an (cT v))),rfl,FrzL.closed _ hA,WkL.refl _⟩,trivial⟩⟩
theorem S1 {l:List At} {S0:List UInt8} {X0:Int} {v:It} (hok:∀a∈l,dF cD a.v) (hb:l.length≤100000):BodySem Tryz.prog opts0.glob 100 [.fsl false (l.map ag),.func (.func 101) [] [.ptr 4 0]] [(4,some (.cells (.str S0::I X0::ay (db v) (bN v) (bM v) (ap (cL v)) (an (cT v)))))] 15 (.bool (l.any (pA v))) [(4,some (.cells (.str S0::I X0::ay (db v) (bN v) (bM v) (ap (cL v)) (an (cT v)))))] 150:=by
 have hA:ad (.str S0::I X0::ay (db v) (bN v) (bM v) (ap (cL v)) (an (cT v)))=true:=oO S0 X0 v
 have h:=SZ (l:=l) (S0:=S0) (X0:=X0) (v:=v) hok hb
 rw[←vM (pA v) l 0,←AP]
 refine ei (k:=20) (A:=aq [] [] (GK (lM (eQ (pA v) l 0)) S0 X0 (db v) (bN v) (bM v) (ap (cL v)) (an (cT v))) [] []) base0 am (aN (LsOk.no rfl)) ?_
 rw[SR]
 exact ⟨h,⟨rfl,⟨_,Frz.closed _ rfl,.refl _⟩,⟨rfl,.cells (.str S0::I X0::ay (db v) (bN v) (bM v) (ap (cL v)) (an (cT v))),.cells (.str S0::I X0::ay (db v) (bN v) (bM v) (ap (cL v)) (an (cT v))),rfl,FrzL.closed _ hA,WkL.refl _⟩,trivial⟩⟩
section
variable {l:List At} {least most:Int} {Q:AExit→St→Prop}
theorem S3 (hb:l.length≤100000):∀m i,i+m=l.length→AO (eQ (pB least most) (l.drop i) i) (fun j=>Q .ret (i5 least most (.ofNat j)).st) (Q (.exit 0) (i5 least most 0).st)→
  ALp Tryz.prog opts0.glob 21 (ah Tryz.prog 143 3) (nL (l.map ag) (.ofNat l.length) (.ofNat i) least most).st Q:=by
 have hL:=bP l
 intro m
 induction m with
 |zero=>
  intro i hi hq
  rw[Nat.add_zero] at hi
  subst hi
  rw[List.drop_of_length_le (Nat.le_refl _)] at hq
  have hq:Q (.exit 0) (i5 least most 0).st:=hq
  refine ALp.round (A:=aq [(4,3,.res (.fptr (.str []::I 0::ay 0 0 0 [] []) 0))] [] aA [] [142]) (V2:=nL (l.map ag) (.ofNat l.length) 0 least most) (F:=i5 least most 0) (lk:=cr 21) (lk':=cr 21) base0 am (LsOk.no rfl) .refl ?_
  rw[AL]
  refine bz (ltInt_false.2 (by simp only[Int.ofNat_eq_natCast];omega)) ⟨⟨⟨⟨rfl,rfl⟩,trivial⟩,trivial,⟨rfl,rfl⟩,⟨rfl,rfl⟩,trivial⟩,hq⟩
 | succ m ih=>
  intro i hi hq
  have hlt:i<l.length:=by omega
  have g:=List.getElem?_eq_getElem hlt
  have hm:=List.getElem_mem hlt
  have ih:=ih (i+1) (by omega)
  rw[List.drop_eq_getElem_cons hlt,eQ] at hq
  revert hq g hm
  generalize l[i]=a
  intro hq g hm
  have yes:ar (Int.ofNat i) (Int.ofNat l.length)=true:=ltInt_iff.2 (by simp only[Int.ofNat_eq_natCast];omega)
  have hw:af .i64 (Int.ofNat i+1)=Int.ofNat (i+1):=co (by simp;omega) (by simp;omega)
  obtain ⟨s,idx,⟨t,y,q,d,ks⟩⟩:=a
  have hx:=gZ (f:=false) g
  cases hp:(pB least most) ⟨s,idx,⟨t,y,q,d,ks⟩⟩ with
  |true=>
   rw[hp] at hq
   have hq:Q .ret (i5 least most (.ofNat i)).st:=hq
   refine ALp.round (A:=aq [(4,3,.res (.fptr (.str s::I idx::ay t y q (ap d) (an ks)) 0))] [] aA [] [142]) (V2:=nL (l.map ag) (.ofNat l.length) 0 least most) (F:=i5 least most (.ofNat i)) (lk:=cr 21) (lk':=cr 21) base0 am (LsOk.no rfl) .refl ?_
   rw[AL]
   have hp:(!ar q least&& !ar most q)=true:=hp
   rw[Bool.and_eq_true] at hp
   exact a8 yes ⟨hx,a8 hp.1 (a8 hp.2 ⟨⟨⟨⟨rfl,rfl⟩,trivial⟩,trivial,⟨rfl,rfl⟩,⟨rfl,rfl⟩,trivial⟩,hq⟩)⟩
  |false=>
   rw[hp] at hq
   have ih:=ih hq
   refine ALp.round (A:=aq [(4,3,.res (.fptr (.str s::I idx::ay t y q (ap d) (an ks)) 0))] [] aA [] [142]) (V2:=nL (l.map ag) (.ofNat l.length) (.ofNat (i+1)) least most) (F:=i5 least most 0) (lk:=cr 21) (lk':=cr 21) base0 am (LsOk.no rfl) .refl ?_
   rw[AL,hw]
   have hp:(!ar q least&& !ar most q)=false:=hp
   refine a8 yes ⟨hx,az (fun e=>bz (by rw[e,Bool.true_and] at hp;exact hp) ⟨⟨⟨⟨rfl,hL⟩,⟨rfl,rfl⟩,⟨rfl,rfl⟩,⟨rfl,rfl⟩,trivial⟩,⟨⟨⟨rfl,rfl,rfl⟩,⟨rfl,rfl⟩,⟨rfl,rfl⟩,trivial⟩,trivial⟩,⟨rfl,rfl⟩,⟨rfl,rfl⟩,trivial⟩,ih⟩) (fun e=>⟨⟨⟨⟨rfl,hL⟩,⟨rfl,rfl⟩,⟨rfl,rfl⟩,⟨rfl,rfl⟩,trivial⟩,⟨⟨⟨rfl,rfl,rfl⟩,⟨rfl,rfl⟩,⟨rfl,rfl⟩,trivial⟩,trivial⟩,⟨rfl,rfl⟩,⟨rfl,rfl⟩,trivial⟩,ih⟩)⟩
end
theorem GR:br (cy Tryz.prog 143) 3=[ah Tryz.prog 143 3]:=by kernel_rfl
theorem S4 {l:List At} {least most:Int} (hb:l.length≤100000):BodySem Tryz.prog opts0.glob 143 [.fsl false (l.map ag),.func (.func 142) [] [.ptr 4 0,.ptr 5 0]] [(4,some (.cells [I least])),(5,some (.cells [I most]))] 21 (I (lM (eQ (pB least most) l 0))) [(4,some (.cells [I least])),(5,some (.cells [I most]))] 121:=by
 have hL:=bP l
 have hlen:ab (l.map ag)=l.length:=by rw[aI,List.length_map]
 have hrun:=fun (Q:AExit→St→Prop)=>S3 (l:=l) (Q:=Q) (least:=least) (most:=most) hb l.length 0 (Nat.zero_add _)
 rw[List.drop_zero] at hrun
 generalize eQ (pB least most) l 0=r at hrun⊢
 cases r with
 | none=>
  refine ei (k:=20) (A:=aq [] [(3,vJ (.exit 0) (.ofNat l.length) 0 (l.map ag) least most)] aA [] []) base0 am
   (aN (LsOk.at1 rfl GR fun st Q hs=> .seen base0.glob hs.1 (hrun Q hs.2))) ?_
  rw[←hlen,SS]
  exact ⟨⟨⟨⟨rfl,hL⟩,⟨rfl,rfl⟩,⟨rfl,rfl⟩,⟨rfl,rfl⟩,trivial⟩,⟨⟨⟨rfl,rfl,rfl⟩,⟨rfl,rfl⟩,⟨rfl,rfl⟩,trivial⟩,trivial⟩,⟨rfl,rfl⟩,⟨rfl,rfl⟩,trivial⟩,⟨rfl,⟨_,Frz.closed _ rfl,.refl _⟩,⟨rfl,.cells [I least],.cells [I least],rfl,FrzL.closed _ rfl,WkL.refl _⟩,⟨rfl,.cells [I most],.cells [I most],rfl,FrzL.closed _ rfl,WkL.refl _⟩,trivial⟩⟩
 | some j=>
  refine ei (k:=20) (A:=aq [] [(3,vJ .ret (.ofNat l.length) (.ofNat j) (l.map ag) least most)] aA [] []) base0 am
   (aN (LsOk.at1 rfl GR fun st Q hs=> .seen base0.glob hs.1 (hrun Q hs.2))) ?_
  rw[←hlen,ST]
  exact ⟨⟨⟨⟨rfl,hL⟩,⟨rfl,rfl⟩,⟨rfl,rfl⟩,⟨rfl,rfl⟩,trivial⟩,⟨⟨⟨rfl,rfl,rfl⟩,⟨rfl,rfl⟩,⟨rfl,rfl⟩,trivial⟩,trivial⟩,⟨rfl,rfl⟩,⟨rfl,rfl⟩,trivial⟩,⟨rfl,⟨_,Frz.closed _ rfl,.refl _⟩,⟨rfl,.cells [I least],.cells [I least],rfl,FrzL.closed _ rfl,WkL.refl _⟩,⟨rfl,.cells [I most],.cells [I most],rfl,FrzL.closed _ rfl,WkL.refl _⟩,trivial⟩⟩
theorem S5 {l:List At} {least most:Int} (hb:l.length≤100000):BodySem Tryz.prog opts0.glob 100 [.fsl false (l.map ag),.func (.func 142) [] [.ptr 4 0,.ptr 5 0]] [(4,some (.cells [I least])),(5,some (.cells [I most]))] 15 (.bool (l.any (pB least most))) [(4,some (.cells [I least])),(5,some (.cells [I most]))] 150:=by
 have h:=GP (K:=4) (K2:=5) (m:=21) (m':=121) (args2:=[.fsl false (l.map ag),.func (.func 142) [] [.ptr 4 0,.ptr 5 0]]) (H2:=[(5,some (.cells [I most])),(4,some (.cells [I least]))]) (S4 (l:=l) (least:=least) (most:=most) hb) (by decide) rfl rfl ⟨.same _ (bP l),vL ⟨.ptr _ _ _ rfl,.ptr _ _ _ rfl,trivial⟩,trivial⟩ rfl rfl rfl (by omega) (by omega)
 rw[←vM (pB least most) l 0,←AP]
 refine ei (k:=20) (A:=aq [] [] (GL (lM (eQ (pB least most) l 0)) least most) [] []) base0 am (aN (LsOk.no rfl)) ?_
 rw[SU]
 exact ⟨h,⟨rfl,⟨_,Frz.closed _ rfl,.refl _⟩,⟨rfl,.cells [I least],.cells [I least],rfl,FrzL.closed _ rfl,WkL.refl _⟩,⟨rfl,.cells [I most],.cells [I most],rfl,FrzL.closed _ rfl,WkL.refl _⟩,trivial⟩⟩
section
variable {l:List At} {Ls:List AV} {kn:List UInt8→Bool} {rt:At→Bool} {Q:AExit→St→Prop}
theorem S6 (hLs:ad Ls=true) (hkn:∀a∈l,SC 46 [.str a.name] (.bool (kn a.name))) (hrt:∀a∈l,SC 106 [ag a,.fsl false Ls] (.bool (rt a))) (hb:l.length≤100000):∀m i,i+m=l.length→AO (eQ (pD kn rt) (l.drop i) i) (fun j=>Q .ret (iz Ls (.ofNat j)).st) (Q (.exit 0) (iz Ls 0).st)→
  ALp Tryz.prog opts0.glob 21 (ah Tryz.prog 143 3) (nM (l.map ag) (.ofNat l.length) (.ofNat i) Ls).st Q:=by
 have hL:=bP l
 have hA:ad [.fsl false Ls]=true:=by simp only[ad,ac,hLs,Bool.and_self]
 intro m
 induction m with
 |zero=>
  intro i hi hq
  rw[Nat.add_zero] at hi
  subst hi
  rw[List.drop_of_length_le (Nat.le_refl _)] at hq
  have hq:Q (.exit 0) (iz Ls 0).st:=hq
  refine ALp.round (A:=aq [(4,3,.res (.fptr (.str []::I 0::ay 0 0 0 [] []) 0))] [] (cz [(46,.bool true),(106,.bool true)]) [] [105]) (V2:=nM (l.map ag) (.ofNat l.length) 0 Ls) (F:=iz Ls 0) (lk:=cr 21) (lk':=cr 21) base0 am (LsOk.no rfl) .refl ?_
  rw[AN]
  refine bz (ltInt_false.2 (by simp only[Int.ofNat_eq_natCast];omega)) ⟨⟨⟨⟨rfl,rfl⟩,trivial⟩,trivial,⟨rfl,hA⟩,trivial⟩,hq⟩
 | succ m ih=>
  intro i hi hq
  have hlt:i<l.length:=by omega
  have g:=List.getElem?_eq_getElem hlt
  have hm:=List.getElem_mem hlt
  have ih:=ih (i+1) (by omega)
  rw[List.drop_eq_getElem_cons hlt,eQ] at hq
  revert hq g hm
  generalize l[i]=a
  intro hq g hm
  have yes:ar (Int.ofNat i) (Int.ofNat l.length)=true:=ltInt_iff.2 (by simp only[Int.ofNat_eq_natCast];omega)
  have hw:af .i64 (Int.ofNat i+1)=Int.ofNat (i+1):=co (by simp;omega) (by simp;omega)
  have h1:=hkn a hm
  have h2:=hrt a hm
  obtain ⟨s,idx,⟨t,y,q,d,ks⟩⟩:=a
  have hx:=gZ (f:=false) g
  cases hp:(pD kn rt) ⟨s,idx,⟨t,y,q,d,ks⟩⟩ with
  |true=>
   rw[hp] at hq
   have hq:Q .ret (iz Ls (.ofNat i)).st:=hq
   refine ALp.round (A:=aq [(4,3,.res (.fptr (.str s::I idx::ay t y q (ap d) (an ks)) 0))] [] (cz [(46,.bool (kn s)),(106,.bool (rt ⟨s,idx,⟨t,y,q,d,ks⟩⟩))]) [] [105]) (V2:=nM (l.map ag) (.ofNat l.length) 0 Ls) (F:=iz Ls (.ofNat i)) (lk:=cr 21) (lk':=cr 21) base0 am (LsOk.no rfl) .refl ?_
   rw[AN]
   have hp:(!kn s|| !rt ⟨s,idx,⟨t,y,q,d,ks⟩⟩)=true:=hp
   refine a8 yes ⟨hx,h1,az (fun e=>⟨⟨⟨⟨rfl,rfl⟩,trivial⟩,trivial,⟨rfl,hA⟩,trivial⟩,hq⟩) (fun e=>⟨h2,a8 (by rw[e,Bool.false_or] at hp;exact hp) ⟨⟨⟨⟨rfl,rfl⟩,trivial⟩,trivial,⟨rfl,hA⟩,trivial⟩,hq⟩⟩)⟩
  |false=>
   rw[hp] at hq
   have ih:=ih hq
   refine ALp.round (A:=aq [(4,3,.res (.fptr (.str s::I idx::ay t y q (ap d) (an ks)) 0))] [] (cz [(46,.bool (kn s)),(106,.bool (rt ⟨s,idx,⟨t,y,q,d,ks⟩⟩))]) [] [105]) (V2:=nM (l.map ag) (.ofNat l.length) (.ofNat (i+1)) Ls) (F:=iz Ls 0) (lk:=cr 21) (lk':=cr 21) base0 am (LsOk.no rfl) .refl ?_
   rw[AN,hw]
   have hp:(!kn s|| !rt ⟨s,idx,⟨t,y,q,d,ks⟩⟩)=false:=hp
   rw[Bool.or_eq_false_iff] at hp
   exact a8 yes ⟨hx,h1,bz hp.1 ⟨h2,bz hp.2 ⟨⟨⟨⟨rfl,hL⟩,⟨rfl,rfl⟩,⟨rfl,rfl⟩,⟨rfl,rfl⟩,trivial⟩,⟨⟨⟨rfl,rfl,rfl⟩,⟨rfl,rfl⟩,trivial⟩,trivial⟩,⟨rfl,hA⟩,trivial⟩,ih⟩⟩⟩
end
theorem GS:br (cy Tryz.prog 143) 3=[ah Tryz.prog 143 3]:=by kernel_rfl
theorem S7 {l:List At} {Ls:List AV} {kn:List UInt8→Bool} {rt:At→Bool} (hLs:ad Ls=true) (hkn:∀a∈l,SC 46 [.str a.name] (.bool (kn a.name))) (hrt:∀a∈l,SC 106 [ag a,.fsl false Ls] (.bool (rt a))) (hb:l.length≤100000):BodySem Tryz.prog opts0.glob 143 [.fsl false (l.map ag),.func (.func 105) [] [.ptr 4 0]] [(4,some (.cells [.fsl false Ls]))] 21 (I (lM (eQ (pD kn rt) l 0))) [(4,some (.cells [.fsl false Ls]))] 121:=by
 have hL:=bP l
 have hA:ad [.fsl false Ls]=true:=by simp only[ad,ac,hLs,Bool.and_self]
 have hlen:ab (l.map ag)=l.length:=by rw[aI,List.length_map]
 have hrun:=fun (Q:AExit→St→Prop)=>S6 (l:=l) (Q:=Q) (Ls:=Ls) (kn:=kn) (rt:=rt) hLs hkn hrt hb l.length 0 (Nat.zero_add _)
 rw[List.drop_zero] at hrun
 generalize eQ (pD kn rt) l 0=r at hrun⊢
 cases r with
 | none=>
  refine ei (k:=20) (A:=aq [] [(3,vK (.exit 0) (.ofNat l.length) 0 (l.map ag) Ls)] aA [] []) base0 am
   (aN (LsOk.at1 rfl GS fun st Q hs=> .seen base0.glob hs.1 (hrun Q hs.2))) ?_
  rw[←hlen,SV]
  exact ⟨⟨⟨⟨rfl,hL⟩,⟨rfl,rfl⟩,⟨rfl,rfl⟩,⟨rfl,rfl⟩,trivial⟩,⟨⟨⟨rfl,rfl,rfl⟩,⟨rfl,rfl⟩,trivial⟩,trivial⟩,⟨rfl,hA⟩,trivial⟩,⟨rfl,⟨_,Frz.closed _ rfl,.refl _⟩,⟨rfl,.cells [.fsl false Ls],.cells [.fsl false Ls],rfl,FrzL.closed _ hA,WkL.refl _⟩,trivial⟩⟩
 | some j=>
  refine ei (k:=20) (A:=aq [] [(3,vK .ret (.ofNat l.length) (.ofNat j) (l.map ag) Ls)] aA [] []) base0 am
   (aN (LsOk.at1 rfl GS fun st Q hs=> .seen base0.glob hs.1 (hrun Q hs.2))) ?_
  rw[←hlen,SW]
  exact ⟨⟨⟨⟨rfl,hL⟩,⟨rfl,rfl⟩,⟨rfl,rfl⟩,⟨rfl,rfl⟩,trivial⟩,⟨⟨⟨rfl,rfl,rfl⟩,⟨rfl,rfl⟩,trivial⟩,trivial⟩,⟨rfl,hA⟩,trivial⟩,⟨rfl,⟨_,Frz.closed _ rfl,.refl _⟩,⟨rfl,.cells [.fsl false Ls],.cells [.fsl false Ls],rfl,FrzL.closed _ hA,WkL.refl _⟩,trivial⟩⟩
theorem S8 {l:List At} {Ls:List AV} {kn:List UInt8→Bool} {rt:At→Bool} (hLs:ad Ls=true) (hkn:∀a∈l,SC 46 [.str a.name] (.bool (kn a.name))) (hrt:∀a∈l,SC 106 [ag a,.fsl false Ls] (.bool (rt a))) (hb:l.length≤100000):BodySem Tryz.prog opts0.glob 100 [.fsl false (l.map ag),.func (.func 105) [] [.ptr 4 0]] [(4,some (.cells [.fsl false Ls]))] 15 (.bool (l.any (pD kn rt))) [(4,some (.cells [.fsl false Ls]))] 150:=by
 have hA:ad [.fsl false Ls]=true:=by simp only[ad,ac,hLs,Bool.and_self]
 have h:=S7 (l:=l) (Ls:=Ls) (kn:=kn) (rt:=rt) hLs hkn hrt hb
 rw[←vM (pD kn rt) l 0,←AP]
 refine ei (k:=20) (A:=aq [] [] (GM (lM (eQ (pD kn rt) l 0)) Ls) [] []) base0 am (aN (LsOk.no rfl)) ?_
 rw[SX]
 exact ⟨h,⟨rfl,⟨_,Frz.closed _ rfl,.refl _⟩,⟨rfl,.cells [.fsl false Ls],.cells [.fsl false Ls],rfl,FrzL.closed _ hA,WkL.refl _⟩,trivial⟩⟩
structure nN (o:Ob):Prop where
 fit:lD o
 g:∀k,nB o k
theorem Okay.h {o:Ob} (h:Okay o):nN o:=⟨h.fit,h.g⟩
theorem GT (a:At):SC 97 [ag a] (.bool (aF (bN a.v) 9)):=by
 have hc:=jB a
 obtain ⟨s,idx,⟨t,y,q,d,ks⟩⟩:=a
 refine eB (A:=ej) base0 jz (aN (LsOk.no rfl)) (by rw[ad,hc];rfl) rfl ?_
 rw[px,SK]
 rfl
def nO (l:List It):Int:=match l with
 |x::_=>bM x
 |[]=>0
def kC (l:List It):Int:=match l.getLast? with
 |some x=>bM x
 |none=>0
def nP (o:Ob) (s:List UInt8) (ws:List It):Bool:=(fu (da s) o s).any (pB (nO ws) (kC ws))
theorem GU {o:Ob} (h:nN o) (c:Bool) (s:List UInt8):(fu c o s).length≤1000:=by
 unfold fu
 split
 ·simp
 ·rename_i k hk
  rw[sI]
  exact (h.g k).n
theorem GV {s:List UInt8}:∀ {l:List It} {i:Nat} {a:At},a∈bS s l i→a.v∈l
 |[],_,_,h=>by cases h
 |v::r,i,a,h=>by
  rw[bS] at h
  rcases List.mem_cons.1 h with rfl|h
  ·exact List.mem_cons_self
  ·exact List.mem_cons_of_mem _ (GV h)
theorem S9 {o:Ob} (h:nN o) {c:Bool} {s:List UInt8}:∀a∈fu c o s,dF cD a.v:=fun a ha=>by
 unfold fu at ha
 split at ha
 ·cases ha
 ·rename_i k hk
  exact (h.g k).i _ (GV ha)
theorem Ta {o:Ob} (h:nN o) {s:List UInt8} (hs:s∈nameL) {ws:List It} (hne:ws≠[]) (hb:ws.length≤100000):SC 98 [aj o,.str s,.fsl false (an ws)] (.bool (nP o s ws)):=by
 have hof:=FY h.fit (uQ s hs) h.g
 have hlen:=GU h (da s) s
 have hW:=fF ws
 have hcl:=ec o (c:=[.str s,.fsl false (an ws)]) (by simp only[ad,ac,hW,Bool.and_self])
 have hln:ab (an ws)=ws.length:=by rw[aI,gT]
 unfold nP
 generalize fu (da s) o s=l at hof hlen⊢
 obtain ⟨x0,r,rfl⟩:∃x r,ws=x::r:=by
  cases ws with
  |nil=>exact absurd rfl hne
  |cons x r=>exact ⟨x,r,rfl⟩
 have g1:(x0::r)[r.length]? =some ((x0::r)[r.length]'(by simp)):=List.getElem?_eq_getElem (by simp)
 have hl:(x0::r).getLast? =some ((x0::r)[r.length]'(by simp)):=by rw[List.getLast?_eq_getElem?];exact g1
 have e1:nO (x0::r)=bM x0:=rfl
 have e2:kC (x0::r)=bM ((x0::r)[r.length]'(by simp)):=by unfold kC;rw[hl]
 rw[e1,e2]
 revert g1
 generalize (x0::r)[r.length]'(by simp)=x1
 intro g1
 have hw:af .i64 (Int.ofNat (r.length+1)-1)=Int.ofNat r.length:=by
  rw[co (by simp<;>omega) (by simp<;>(simp only[List.length_cons] at hb;omega))]
  simp only[Int.ofNat_eq_natCast]
  omega
 have hcf:=S5 (l:=l) (least:=bM x0) (most:=bM x1) (by omega)
 obtain ⟨t,y,q,d,ks⟩:=x0
 obtain ⟨t',y',q',d',ks'⟩:=x1
 have i0:=lx (f:=false) (ks:=⟨t,y,q,d,ks⟩::r) (i:=0) rfl
 have i1:=lx (f:=false) g1
 have hcf:=GP (K:=13) (K2:=14) (m:=23) (m':=48) (args2:=[.fsl false (l.map ag),.func (.func 142) [] [.ptr 13 0,.ptr 14 0]]) (H2:=[(14,some (.cells [I q'])),(13,some (.cells [I q]))]) hcf (by decide) rfl rfl ⟨.same _ (bP l),vL ⟨.ptr _ _ _ rfl,.ptr _ _ _ rfl,trivial⟩,trivial⟩ rfl rfl rfl (by omega) (by omega)
 refine eB (A:=aq [(1,1,.res (.fptr (ay t y q (ap d) (an ks)) 0)),(1,8,.res (.fptr (ay t' y' q' (ap d') (an ks')) 0))] [] (GJ (l.any (pB q q')) (l.map ag) q q') [] []) base0 am (aN (LsOk.no rfl)) hcl rfl ?_
 unfold aj ao at hof⊢
 rw[SO,hln,List.length_cons,hw]
 exact ⟨i0,i1,hof,hcf,rfl⟩
def i6 (o:Ob) (L:List At) (a:At):Bool:=match aF (bN a.v) 9 with
 |true=>nP o a.name (bG a.name L)
 |false=>(fu (da a.name) o a.name).any (pA a.v)
theorem AQ {L:List At} {a:At} (h:a∈L):bG a.name L≠[]:=by
 induction L with
 |nil=>cases h
 | cons b r ih=>
  rw[bG]
  cases hb:aB b.name a.name with
  |true=>simp
  |false=>
   rcases List.mem_cons.1 h with rfl|h
   ·rw[beqBytes_iff.2 rfl] at hb;cases hb
   ·exact ih h
section
variable {o:Ob} {L:List At} {Q:AExit→St→Prop}
theorem Tb (ok:nN o) (hn:∀a∈L,a.name∈nameL) (hb:L.length≤1000):∀m i,i+m=L.length→ak ((L.drop i).all (i6 o L)) (Q (.exit 0) isF.st) (Q .ret isF.st)→
  ALp Tryz.prog opts0.glob 0 (ah Tryz.prog 52 3) (i3 (.ofNat i) (.ofNat L.length) (L.map ag) (ao o)).st Q:=by
 have hL:=bP L
 have hO:=dr o
 intro m
 induction m with
 |zero=>
  intro i hi hq
  rw[Nat.add_zero] at hi
  subst hi
  rw[List.drop_of_length_le (Nat.le_refl _)] at hq
  have hq:Q (.exit 0) isF.st:=hq
  refine ALp.round (A:=nH (.str []::I 0::ay 0 0 0 [] []) false false false [] []) (V2:=i3 0 (.ofNat L.length) (L.map ag) (ao o)) (F:=isF) (lk:=[(0,0)]) (lk':=[]) base0 am (LsOk.no rfl) .refl ?_
  unfold ao at hO⊢
  rw[AG]
  exact bz (ltInt_false.2 (by simp only[Int.ofNat_eq_natCast];omega)) ⟨⟨⟨⟨rfl,rfl⟩,trivial⟩,trivial,trivial⟩,hq⟩
 | succ m ih=>
  intro i hi hq
  have hlt:i<L.length:=by omega
  have g:=List.getElem?_eq_getElem hlt
  have hm:=List.getElem_mem hlt
  rw[List.drop_eq_getElem_cons hlt,List.all_cons] at hq
  have ih:=ih (i+1) (by omega)
  revert hq g hm
  generalize L[i]=a
  intro hq g hm
  have yes:ar (Int.ofNat i) (Int.ofNat L.length)=true:=ltInt_iff.2 (by simp only[Int.ofNat_eq_natCast];omega)
  have hw:af .i64 (Int.ofNat i+1)=Int.ofNat (i+1):=co (by simp;omega) (by simp;omega)
  have hs:=hn a hm
  have hd:=GT a
  have hv:=GG (l:=L) (by omega) a.name
  have hvl:=pL a.name L
  have hdt:=Ta ok hs (AQ hm) (by omega)
  have hof:=FY ok.fit (uQ a.name hs) ok.g
  have hofl:=GU ok (da a.name) a.name
  have hcf:=S1 (l:=fu (da a.name) o a.name) (S0:=a.name) (X0:=a.idx) (v:=a.v) (S9 ok) (by omega)
  have hcc:i6 o L a=match aF (bN a.v) 9 with|true=>nP o a.name (bG a.name L)|false=>(fu (da a.name) o a.name).any (pA a.v):=rfl
  rw[hcc] at hq
  generalize bG a.name L=Vs at hv hdt hq
  generalize fu (da a.name) o a.name=As at hof hcf hq
  obtain ⟨s,idx,⟨t,y,q,d,ks⟩⟩:=a
  have hx:=gZ (f:=false) g
  rw[px] at hd
  simp only at hs hv hdt hof hcf hq
  cases hy:aF y 9 with
  | true=>
   rw[show aF (bN ⟨t,y,q,d,ks⟩) 9=true from hy] at hd hq
   dsimp only at hq
   generalize nP o s Vs=b at hdt hq
   cases b with
   |true=>
    rw[Bool.true_and] at hq
    have ih:=ih hq
    refine ALp.round (A:=nH (.str s::I idx::ay t y q (ap d) (an ks)) true true false (an Vs) []) (V2:=i3 (.ofNat (i+1)) (.ofNat L.length) (L.map ag) (ao o)) (F:=isF) (lk:=[(0,0)]) (lk':=[]) base0 am (LsOk.no rfl) .refl ?_
    unfold aj at hdt
    unfold ao at hO hdt ih⊢
    rw[GH,hw]
    exact a8 yes ⟨hx,hd,hv,hdt,bz rfl ⟨⟨⟨⟨rfl,hL⟩,⟨rfl,rfl⟩,⟨rfl,hL⟩,⟨rfl,rfl⟩,⟨rfl,rfl⟩,trivial⟩,⟨⟨rfl,rfl⟩,trivial⟩,⟨rfl,hO⟩,trivial⟩,ih⟩⟩
   |false=>
    rw[Bool.false_and] at hq
    have hq:Q .ret isF.st:=hq
    refine ALp.round (A:=nH (.str s::I idx::ay t y q (ap d) (an ks)) true false false (an Vs) []) (V2:=i3 0 (.ofNat L.length) (L.map ag) (ao o)) (F:=isF) (lk:=[(0,0)]) (lk':=[]) base0 am (LsOk.no rfl) .refl ?_
    unfold aj at hdt
    unfold ao at hO hdt⊢
    rw[GH]
    exact a8 yes ⟨hx,hd,hv,hdt,a8 rfl ⟨⟨⟨⟨rfl,rfl⟩,trivial⟩,trivial,trivial⟩,hq⟩⟩
  | false=>
   rw[show aF (bN ⟨t,y,q,d,ks⟩) 9=false from hy] at hd hq
   dsimp only at hq
   have hcf:=GO (K:=4) (m:=15) (m':=40) (args2:=[.fsl false (As.map ag),.func (.func 101) [] [.ptr 4 0]]) (H2:=[(4,some (.cells (.str s::I idx::ay t y q (ap d) (an ks))))]) hcf rfl ⟨.same _ (bP As),vL ⟨.ptr _ _ _ rfl,trivial⟩,trivial⟩ rfl (jB ⟨s,idx,⟨t,y,q,d,ks⟩⟩) (by omega) (by omega)
   generalize As.any (pA ⟨t,y,q,d,ks⟩)=b at hcf hq
   cases b with
   |true=>
    rw[Bool.true_and] at hq
    have ih:=ih hq
    refine ALp.round (A:=nH (.str s::I idx::ay t y q (ap d) (an ks)) false false true [] (As.map ag)) (V2:=i3 (.ofNat (i+1)) (.ofNat L.length) (L.map ag) (ao o)) (F:=isF) (lk:=[(0,0)]) (lk':=[]) base0 am (LsOk.no rfl) .refl ?_
    unfold aj at hof
    unfold ao at hO hof ih⊢
    rw[AG,hw]
    exact a8 yes ⟨hx,hd,hof,hcf,bz rfl ⟨⟨⟨⟨rfl,hL⟩,⟨rfl,rfl⟩,⟨rfl,hL⟩,⟨rfl,rfl⟩,⟨rfl,rfl⟩,trivial⟩,⟨⟨rfl,rfl⟩,trivial⟩,⟨rfl,hO⟩,trivial⟩,ih⟩⟩
   |false=>
    rw[Bool.false_and] at hq
    have hq:Q .ret isF.st:=hq
    refine ALp.round (A:=nH (.str s::I idx::ay t y q (ap d) (an ks)) false false false [] (As.map ag)) (V2:=i3 0 (.ofNat L.length) (L.map ag) (ao o)) (F:=isF) (lk:=[(0,0)]) (lk':=[]) base0 am (LsOk.no rfl) .refl ?_
    unfold aj at hof
    unfold ao at hO hof⊢
    rw[AG]
    exact a8 yes ⟨hx,hd,hof,hcf,a8 rfl ⟨⟨⟨⟨rfl,rfl⟩,trivial⟩,trivial,trivial⟩,hq⟩⟩
end
theorem GW:br (cy Tryz.prog 52) 3=[ah Tryz.prog 52 3]:=by kernel_rfl
def cE (o:Ob) (L:List At):Bool:=L.all (i6 o L)
theorem Tc {o:Ob} {L:List At} (ok:nN o) (hn:∀a∈L,a.name∈nameL) (hb:L.length≤1000):SC 52 [aj o,.fsl false (L.map ag)] (.bool (cE o L)):=by
 have hL:=bP L
 have hO:=dr o
 have hcl:=ec o (c:=[.fsl false (L.map ag)]) (by simp only[ad,ac,hL,Bool.and_self])
 have hlen:ab (L.map ag)=L.length:=by rw[aI,List.length_map]
 have hrun:=fun (Q:AExit→St→Prop)=>Tb (Q:=Q) ok hn hb L.length 0 (Nat.zero_add _)
 rw[List.drop_zero] at hrun
 unfold cE
 generalize L.all (i6 o L)=b at hrun⊢
 cases b with
 | true=>
  refine eB (A:=aq [] [(3,vD (.exit 0) (.ofNat (ab (L.map ag))) (L.map ag) (ao o))] aA [] []) base0 am
   (aN (LsOk.at1 rfl GW fun st Q hs=> .seen base0.glob hs.1 (by
    rw[hlen]
    exact hrun Q hs.2))) hcl rfl ?_
  unfold aj
  unfold ao at hO⊢
  rw[SN]
  exact ⟨⟨⟨⟨rfl,hL⟩,⟨rfl,rfl⟩,⟨rfl,hL⟩,⟨rfl,rfl⟩,⟨rfl,rfl⟩,trivial⟩,⟨⟨rfl,rfl⟩,trivial⟩,⟨rfl,hO⟩,trivial⟩,rfl⟩
 | false=>
  refine eB (A:=aq [] [(3,vD .ret (.ofNat (ab (L.map ag))) (L.map ag) (ao o))] aA [] []) base0 am
   (aN (LsOk.at1 rfl GW fun st Q hs=> .seen base0.glob hs.1 (by
    rw[hlen]
    exact hrun Q hs.2))) hcl rfl ?_
  unfold aj
  unfold ao at hO⊢
  rw[SM]
  exact ⟨⟨⟨⟨rfl,hL⟩,⟨rfl,rfl⟩,⟨rfl,hL⟩,⟨rfl,rfl⟩,⟨rfl,rfl⟩,trivial⟩,⟨⟨rfl,rfl⟩,trivial⟩,⟨rfl,hO⟩,trivial⟩,rfl⟩
end Go.Proofs.YtjhggnebkfpgcaaGreatDoor
