/- Obj6, Okay, AllS, AllW. -/
import Derived.Test.YtjhggnebkfpgcaaGreatDoorQ5
import Derived.KernelRfl
namespace Go.Proofs.YtjhggnebkfpgcaaGreatDoor
open Go Go.RowKit
open Go.Proofs.Abs
def nsl (id w:Nat):Nat→AV
 |0=> .nilsl
 |k+1=> .rsl true id 0 (k+1) w
def nb (l:List AV):Nat→Option Blk
 |0=>none
 |_+1=>some (.cells l)
theorem nsl_rv (id w:Nat):∀n,Rv id (nsl id w n)
 |0=>fun _ _=> .same _ rfl
 |_+1=>fun _ h=> .rsl _ _ _ _ _ _ h
theorem nb_cl {l:List AV} (h:closedAll l=true):∀n,ClosedOB (nb l n)
 |0=>⟨trivial⟩
 |_+1=>⟨h⟩
noncomputable def obQ (i:Nat) (Rs:List AV) (M:AV) (o:Ob) (N:List (List UInt8)) (L:List Lk) (C:List Cu):St:=stO (oW (.ofNat i) Rs (obF o M (nsl 1 1 N.length) (nsl 2 2 L.length) (nsl 3 2 C.length)) []) [(1,nb (N.map .str) N.length),(2,nb (flat (L.map lkA)) L.length),(3,nb (flat (C.map cuA)) C.length)]
structure OxZ (o:Ob):Prop where
 d:∀k,(dateAt o k).has=false→(dateAt o k).t=0
 l:o.lh=false→o.lt=0∧o.lc=0∧o.lu=0
theorem date_or (o:Ob) (x:Dt) (d k:Nat):dateAt (setDate o x d) k=x∨dateAt (setDate o x d) k=dateAt o k:=by
 unfold setDate dateAt
 split<;>split<;>simp
theorem OxZ.date {o:Ob} (h:OxZ o) (t:Int) (d:Nat):OxZ (setDate o ⟨true,t⟩ d):=⟨fun k hk=>by
 rcases date_or o ⟨true,t⟩ d k with e|e
 ·rw[e] at hk;cases hk
 ·rw[e] at hk⊢;exact h.d k hk,by
 unfold setDate
 split<;>exact h.l⟩
theorem dateAt_of {o p:Ob} (h0:p.d0=o.d0) (h1:p.d1=o.d1) (h2:p.d2=o.d2) (h3:p.d3=o.d3) (h4:p.d4=o.d4) (h5:p.d5=o.d5) (h6:p.d6=o.d6) (h7:p.d7=o.d7) (h8:p.d8=o.d8) (h9:p.d9=o.d9) (k:Nat):dateAt p k=dateAt o k:=by
 unfold dateAt
 split<;>assumption
theorem OxZ.of {o p:Ob} (h:OxZ o) (hd:∀k,dateAt p k=dateAt o k) (hl:p.lh=false→p.lt=0∧p.lc=0∧p.lu=0):OxZ p:=⟨fun k=>by rw[hd];exact h.d k,hl⟩
structure OxI (n:Nat) (o:Ob) (N:List (List UInt8)) (L:List Lk) (C:List Cu):Prop where
 n1:∀s∈N,s∈nmL
 n2:N.Nodup
 l1:L.length≤n
 l2:L.Nodup
 l3:∀x∈L,x.id∈idL
 c1:C.length≤6
 c2:C.Nodup
 c3:∀x∈C,x.name∈cnL∧x.text∈ctL
 id:o.id∈idL
 msg:o.msg∈msL
 dat:o.d0.has=true
 z:OxZ o
theorem nodup_le {α:Type} [DecidableEq α]:∀ (l m:List α),l.Nodup→(∀x∈l,x∈m)→l.length≤m.length
 |[],_,_,_=>Nat.zero_le _
 |a::t,m,h,hs=>by
  have h:=List.nodup_cons.1 h
  have ha:=hs a (by simp)
  have:=nodup_le t (m.erase a) h.2 fun x hx=>(List.mem_erase_of_ne (fun e=>by subst e;exact h.1 hx)).2 (hs x (by simp[hx]))
  rw[List.length_erase_of_mem ha] at this
  have:=List.length_pos_of_mem ha
  simp only[List.length_cons]
  omega
theorem OxI.names {n:Nat} {o:Ob} {N:List (List UInt8)} {L:List Lk} {C:List Cu} (h:OxI n o N L C):N.length≤5:=nodup_le N nmL h.n2 h.n1
theorem inL_no {l:List (List UInt8)} {s:List UInt8} (h:inL' l s=false):s∉l:=fun hm=>by
 have:inL' l s=true:=List.any_eq_true.2 ⟨s,hm,beqBytes_iff.2 rfl⟩
 rw[this] at h;cases h
theorem hasLk_no {l:List Lk} {x:Lk} (h:hasLk x l=false):x∉l:=fun hm=>by
 have:hasLk x l=true:=List.any_eq_true.2 ⟨x,hm,by simp[lkEq,beqInt_iff,beqBytes_iff]⟩
 rw[this] at h;cases h
theorem hasCu_no {l:List Cu} {x:Cu} (h:hasCu x l=false):x∉l:=fun hm=>by
 have:hasCu x l=true:=List.any_eq_true.2 ⟨x,hm,by simp[cuEq,beqBytes_iff]⟩
 rw[this] at h;cases h
theorem nodup_snoc {α:Type} {l:List α} {x:α} (h:l.Nodup) (hx:x∉l):(l++[x]).Nodup:=by
 rw[List.nodup_append]
 refine ⟨h,by simp,fun a ha b hb=> ?_⟩
 rw[List.mem_singleton] at hb
 subst hb
 intro e
 subst e
 exact hx ha
theorem mem_snoc {α:Type} {l:List α} {x:α} {p:α→Prop} (h:∀y∈l,p y) (hx:p x):∀y∈l++[x],p y:=fun y hy=>by
 rcases List.mem_append.1 hy with hy|hy
 ·exact h y hy
 ·rw[List.mem_singleton] at hy;subst hy;exact hx
theorem OxI.more {n:Nat} {o:Ob} {N:List (List UInt8)} {L:List Lk} {C:List Cu} (h:OxI n o N L C):OxI (n+1) o N L C:=⟨h.n1,h.n2,Nat.le_succ_of_le h.l1,h.l2,h.l3,h.c1,h.c2,h.c3,h.id,h.msg,h.dat,h.z⟩
theorem OxI.date {n:Nat} {o:Ob} {N:List (List UInt8)} {L:List Lk} {C:List Cu} (h:OxI n o N L C) (t:Int):∀d,OxI (n+1) (setDate o ⟨true,t⟩ d) N L C
 |0=>⟨h.n1,h.n2,Nat.le_succ_of_le h.l1,h.l2,h.l3,h.c1,h.c2,h.c3,h.id,h.msg,rfl,h.z.date t 0⟩
 |1=>⟨h.n1,h.n2,Nat.le_succ_of_le h.l1,h.l2,h.l3,h.c1,h.c2,h.c3,h.id,h.msg,h.dat,h.z.date t 1⟩
 |2=>⟨h.n1,h.n2,Nat.le_succ_of_le h.l1,h.l2,h.l3,h.c1,h.c2,h.c3,h.id,h.msg,h.dat,h.z.date t 2⟩
 |3=>⟨h.n1,h.n2,Nat.le_succ_of_le h.l1,h.l2,h.l3,h.c1,h.c2,h.c3,h.id,h.msg,h.dat,h.z.date t 3⟩
 |4=>⟨h.n1,h.n2,Nat.le_succ_of_le h.l1,h.l2,h.l3,h.c1,h.c2,h.c3,h.id,h.msg,h.dat,h.z.date t 4⟩
 |5=>⟨h.n1,h.n2,Nat.le_succ_of_le h.l1,h.l2,h.l3,h.c1,h.c2,h.c3,h.id,h.msg,h.dat,h.z.date t 5⟩
 |6=>⟨h.n1,h.n2,Nat.le_succ_of_le h.l1,h.l2,h.l3,h.c1,h.c2,h.c3,h.id,h.msg,h.dat,h.z.date t 6⟩
 |7=>⟨h.n1,h.n2,Nat.le_succ_of_le h.l1,h.l2,h.l3,h.c1,h.c2,h.c3,h.id,h.msg,h.dat,h.z.date t 7⟩
 |8=>⟨h.n1,h.n2,Nat.le_succ_of_le h.l1,h.l2,h.l3,h.c1,h.c2,h.c3,h.id,h.msg,h.dat,h.z.date t 8⟩
 |9=>⟨h.n1,h.n2,Nat.le_succ_of_le h.l1,h.l2,h.l3,h.c1,h.c2,h.c3,h.id,h.msg,h.dat,h.z.date t 9⟩
 |_+10=>⟨h.n1,h.n2,Nat.le_succ_of_le h.l1,h.l2,h.l3,h.c1,h.c2,h.c3,h.id,h.msg,h.dat,h.z.date t _⟩
theorem thin {S S2:St} {Q:AExit→St→Prop} {b:Code} (h:ALp Tryz.prog opts0.glob 0 b S2 Q) (h1:S2.slots=S.slots) (h2:∀i b,hget S2.heap i=some b→hget S.heap i=some b) (h3:S2.nx=S.nx) (h4:S2.n=S.n):ALp Tryz.prog opts0.glob 0 b S Q:=h.says (.sub h1 h2 h3 h4)
theorem ob_step {l:List Rw} {i:Nat} {y:Rw} {M:AV} (hy:l[i]? =some y) (hi:i<10) (hM:closedA M=true) {o:Ob} {N:List (List UInt8)} {L:List Lk} {C:List Cu} (h:OxI i o N L C):∃o' N' L' C',OxI (i+1) o' N' L' C'∧Step (obQ i (l.map rwA) M o N L C) (obQ (i+1) (l.map rwA) M o' N' L' C'):=by
 have g:=go_of hy hi
 have rN:=nsl_rv 1 1 N.length
 have rL:=nsl_rv 2 2 L.length
 have rC:=nsl_rv 3 2 C.length
 have bn:=nb_cl (closed_strs N) N.length
 have bl:=nb_cl (closed_flk L) L.length
 have bc:=nb_cl (closed_fcu C) C.length
 obtain ⟨k,hk,hlt⟩:=mod_nat (n:=y.k) (m:=9) (by decide)
 obtain ⟨d,hd,hdlt⟩:=mod_nat (n:=y.a) (m:=10) (by decide)
 match k,hk,hlt with
 |0,hk,_=>
  match d,hd,hdlt with
  |0,hd,_=>exact ⟨_,N,L,C,h.date (y.b%60) 0,st_dat00 o g hM rN rL rC bn bl bc hk hd⟩
  |1,hd,_=>exact ⟨_,N,L,C,h.date (y.b%60) 1,st_dat01 o g hM rN rL rC bn bl bc hk hd⟩
  |2,hd,_=>exact ⟨_,N,L,C,h.date (y.b%60) 2,st_dat02 o g hM rN rL rC bn bl bc hk hd⟩
  |3,hd,_=>exact ⟨_,N,L,C,h.date (y.b%60) 3,st_dat03 o g hM rN rL rC bn bl bc hk hd⟩
  |4,hd,_=>exact ⟨_,N,L,C,h.date (y.b%60) 4,st_dat04 o g hM rN rL rC bn bl bc hk hd⟩
  |5,hd,_=>exact ⟨_,N,L,C,h.date (y.b%60) 5,st_dat05 o g hM rN rL rC bn bl bc hk hd⟩
  |6,hd,_=>exact ⟨_,N,L,C,h.date (y.b%60) 6,st_dat06 o g hM rN rL rC bn bl bc hk hd⟩
  |7,hd,_=>exact ⟨_,N,L,C,h.date (y.b%60) 7,st_dat07 o g hM rN rL rC bn bl bc hk hd⟩
  |8,hd,_=>exact ⟨_,N,L,C,h.date (y.b%60) 8,st_dat08 o g hM rN rL rC bn bl bc hk hd⟩
  |9,hd,_=>exact ⟨_,N,L,C,h.date (y.b%60) 9,st_dat09 o g hM rN rL rC bn bl bc hk hd⟩
  |_+10,_,hdlt=>exact absurd hdlt (by omega)
 |1,hk,_=>
  match d,hd,hdlt with
  |0,hd,_=>exact ⟨_,N,L,C,h.date (y.b%60) 0,st_dat10 o g hM rN rL rC bn bl bc hk hd⟩
  |1,hd,_=>exact ⟨_,N,L,C,h.date (y.b%60) 1,st_dat11 o g hM rN rL rC bn bl bc hk hd⟩
  |2,hd,_=>exact ⟨_,N,L,C,h.date (y.b%60) 2,st_dat12 o g hM rN rL rC bn bl bc hk hd⟩
  |3,hd,_=>exact ⟨_,N,L,C,h.date (y.b%60) 3,st_dat13 o g hM rN rL rC bn bl bc hk hd⟩
  |4,hd,_=>exact ⟨_,N,L,C,h.date (y.b%60) 4,st_dat14 o g hM rN rL rC bn bl bc hk hd⟩
  |5,hd,_=>exact ⟨_,N,L,C,h.date (y.b%60) 5,st_dat15 o g hM rN rL rC bn bl bc hk hd⟩
  |6,hd,_=>exact ⟨_,N,L,C,h.date (y.b%60) 6,st_dat16 o g hM rN rL rC bn bl bc hk hd⟩
  |7,hd,_=>exact ⟨_,N,L,C,h.date (y.b%60) 7,st_dat17 o g hM rN rL rC bn bl bc hk hd⟩
  |8,hd,_=>exact ⟨_,N,L,C,h.date (y.b%60) 8,st_dat18 o g hM rN rL rC bn bl bc hk hd⟩
  |9,hd,_=>exact ⟨_,N,L,C,h.date (y.b%60) 9,st_dat19 o g hM rN rL rC bn bl bc hk hd⟩
  |_+10,_,hdlt=>exact absurd hdlt (by omega)
 |2,hk,_=>
  match d,hd,hdlt with
  |0,hd,_=>exact ⟨_,N,L,C,h.date (y.b%60) 0,st_dat20 o g hM rN rL rC bn bl bc hk hd⟩
  |1,hd,_=>exact ⟨_,N,L,C,h.date (y.b%60) 1,st_dat21 o g hM rN rL rC bn bl bc hk hd⟩
  |2,hd,_=>exact ⟨_,N,L,C,h.date (y.b%60) 2,st_dat22 o g hM rN rL rC bn bl bc hk hd⟩
  |3,hd,_=>exact ⟨_,N,L,C,h.date (y.b%60) 3,st_dat23 o g hM rN rL rC bn bl bc hk hd⟩
  |4,hd,_=>exact ⟨_,N,L,C,h.date (y.b%60) 4,st_dat24 o g hM rN rL rC bn bl bc hk hd⟩
  |5,hd,_=>exact ⟨_,N,L,C,h.date (y.b%60) 5,st_dat25 o g hM rN rL rC bn bl bc hk hd⟩
  |6,hd,_=>exact ⟨_,N,L,C,h.date (y.b%60) 6,st_dat26 o g hM rN rL rC bn bl bc hk hd⟩
  |7,hd,_=>exact ⟨_,N,L,C,h.date (y.b%60) 7,st_dat27 o g hM rN rL rC bn bl bc hk hd⟩
  |8,hd,_=>exact ⟨_,N,L,C,h.date (y.b%60) 8,st_dat28 o g hM rN rL rC bn bl bc hk hd⟩
  |9,hd,_=>exact ⟨_,N,L,C,h.date (y.b%60) 9,st_dat29 o g hM rN rL rC bn bl bc hk hd⟩
  |_+10,_,hdlt=>exact absurd hdlt (by omega)
 | 3,hk,_=>
  match N,h,bn with
  |[],h,_=>
   refine ⟨o,[ofL nmL [] y.a],L,C,⟨mem_snoc (l:=[]) (fun _ h=>by cases h) (ofL_mem _ _ _ (by decide)),by simp,Nat.le_succ_of_le h.l1,h.l2,h.l3,h.c1,h.c2,h.c3,h.id,h.msg,h.dat,h.z⟩,fun Q hq=> ?_⟩
   exact thin (st_nam0 o g hM rL rC bl bc hk Q hq) rfl (fun i b h=>match i,h with|0,h=>h|1,h=>h|2,h=>h|3,h=>h|4,h=>h|_+5,h=>h) rfl rfl
  | s::N,h,_=>
   have hl:=h.names
   cases hin:inL' (s::N) (ofL nmL [] y.a) with
   |true=>exact ⟨o,s::N,L,C,h.more,fun Q hq=>st_nam1t o g hM rL rC bl bc hk (l:=s::N) (by omega) hin Q hq⟩
   |false=>
    refine ⟨o,s::N++[ofL nmL [] y.a],L,C,⟨mem_snoc h.n1 (ofL_mem _ _ _ (by decide)),nodup_snoc h.n2 (inL_no hin),Nat.le_succ_of_le h.l1,h.l2,h.l3,h.c1,h.c2,h.c3,h.id,h.msg,h.dat,h.z⟩,fun Q hq=> ?_⟩
    refine st_nam1f o g hM rL rC bl bc hk (l:=s::N) (by omega) hin Q ?_
    have e1:(s::N++[ofL nmL [] y.a]).length=(s::N).length+1:=by simp
    have e2:(s::N++[ofL nmL [] y.a]).map AV.str=(s::N).map .str++[.str (ofL nmL [] y.a)]:=by simp
    unfold obQ at hq
    rw[e1,e2] at hq
    exact hq
 | 4,hk,_=>
  match L,h,bl with
  |[],h,_=>
   refine ⟨o,N,[lkOf y],C,⟨h.n1,h.n2,by simp,by simp,mem_snoc (l:=[]) (fun _ h=>by cases h) (ofL_mem idL _ _ (by decide)),h.c1,h.c2,h.c3,h.id,h.msg,h.dat,h.z⟩,fun Q hq=> ?_⟩
   exact thin (st_lnk0 o g hM rN rC bn bc hk Q (thin hq rfl (fun i b h=>match i,h with|0,h=>h|1,h=>h|2,h=>h|3,h=>h|4,h=>h|_+5,h=>h) rfl rfl)) rfl (fun i b h=>match i,h with|0,h=>h|1,h=>h|2,h=>h|3,h=>h|4,h=>h|_+5,h=>h) rfl rfl
  | s::L,h,_=>
   have hl:=h.l1
   cases hin:hasLk (lkOf y) (s::L) with
   |true=>exact ⟨o,N,s::L,C,h.more,fun Q hq=>thin (st_lnk1t o g hM rN rC bn bc hk (l:=s::L) (by omega) hin Q (thin hq rfl (fun i b h=>match i,h with|0,h=>h|1,h=>h|2,h=>h|3,h=>h|4,h=>h|_+5,h=>h) rfl rfl)) rfl (fun i b h=>match i,h with|0,h=>h|1,h=>h|2,h=>h|3,h=>h|4,h=>h|_+5,h=>h) rfl rfl⟩
   |false=>
    refine ⟨o,N,s::L++[lkOf y],C,⟨h.n1,h.n2,by simp only[List.length_append,List.length_singleton];omega,nodup_snoc h.l2 (hasLk_no hin),mem_snoc h.l3 (ofL_mem idL _ _ (by decide)),h.c1,h.c2,h.c3,h.id,h.msg,h.dat,h.z⟩,fun Q hq=> ?_⟩
    have e1:(s::L++[lkOf y]).length=(s::L).length+1:=by simp
    have e2:flat ((s::L++[lkOf y]).map lkA)=flat ((s::L).map lkA)++[I (wrapA .i64 (101+y.a%5)),.str (ofL idL [] y.b)]:=by rw[List.map_append,flat_append];rfl
    unfold obQ at hq
    rw[e1,e2] at hq
    exact thin (st_lnk1f o g hM rN rC bn bc hk (l:=s::L) (by omega) hin Q (thin hq rfl (fun i b h=>match i,h with|0,h=>h|1,h=>h|2,h=>h|3,h=>h|4,h=>h|_+5,h=>h) rfl rfl)) rfl (fun i b h=>match i,h with|0,h=>h|1,h=>h|2,h=>h|3,h=>h|4,h=>h|_+5,h=>h) rfl rfl
 |5,hk,_=>exact ⟨limOb o y,N,L,C,⟨h.n1,h.n2,Nat.le_succ_of_le h.l1,h.l2,h.l3,h.c1,h.c2,h.c3,h.id,h.msg,h.dat,h.z.of (dateAt_of rfl rfl rfl rfl rfl rfl rfl rfl rfl rfl) fun h=>by cases h⟩,st_lim o g hM rN rL rC bn bl bc hk⟩
 | 6,hk,_=>
  match C,h,bc with
  |[],h,_=>
   refine ⟨o,N,L,[cuOf y],⟨h.n1,h.n2,Nat.le_succ_of_le h.l1,h.l2,h.l3,by simp,by simp,mem_snoc (l:=[]) (fun _ h=>by cases h) ⟨ofL_mem cnL _ _ (by decide),ofL_mem ctL _ _ (by decide)⟩,h.id,h.msg,h.dat,h.z⟩,fun Q hq=> ?_⟩
   exact thin (st_cus0 o g hM rN rL bn bl hk Q (thin hq rfl (fun i b h=>match i,h with|0,h=>h|1,h=>h|2,h=>h|3,h=>h|4,h=>h|_+5,h=>h) rfl rfl)) rfl (fun i b h=>match i,h with|0,h=>h|1,h=>h|2,h=>h|3,h=>h|4,h=>h|_+5,h=>h) rfl rfl
  | s::C,h,_=>
   have hl:=h.c1
   cases hin:hasCu (cuOf y) (s::C) with
   |true=>exact ⟨o,N,L,s::C,h.more,fun Q hq=>thin (st_cus1t o g hM rN rL bn bl hk (l:=s::C) (by omega) hin Q (thin hq rfl (fun i b h=>match i,h with|0,h=>h|1,h=>h|2,h=>h|3,h=>h|4,h=>h|_+5,h=>h) rfl rfl)) rfl (fun i b h=>match i,h with|0,h=>h|1,h=>h|2,h=>h|3,h=>h|4,h=>h|_+5,h=>h) rfl rfl⟩
   | false=>
    by_cases h6:(s::C).length<6
    ·refine ⟨o,N,L,s::C++[cuOf y],⟨h.n1,h.n2,Nat.le_succ_of_le h.l1,h.l2,h.l3,by simp only[List.length_append,List.length_singleton];omega,nodup_snoc h.c2 (hasCu_no hin),mem_snoc h.c3 ⟨ofL_mem cnL _ _ (by decide),ofL_mem ctL _ _ (by decide)⟩,h.id,h.msg,h.dat,h.z⟩,fun Q hq=> ?_⟩
     have e1:(s::C++[cuOf y]).length=(s::C).length+1:=by simp
     have e2:flat ((s::C++[cuOf y]).map cuA)=flat ((s::C).map cuA)++[.str (ofL cnL [] y.a),.str (ofL ctL [] y.b)]:=by rw[List.map_append,flat_append];rfl
     unfold obQ at hq
     rw[e1,e2] at hq
     exact thin (st_cus1f o g hM rN rL bn bl hk (l:=s::C) (by omega) hin h6 Q (thin hq rfl (fun i b h=>match i,h with|0,h=>h|1,h=>h|2,h=>h|3,h=>h|4,h=>h|_+5,h=>h) rfl rfl)) rfl (fun i b h=>match i,h with|0,h=>h|1,h=>h|2,h=>h|3,h=>h|4,h=>h|_+5,h=>h) rfl rfl
    ·exact ⟨o,N,L,s::C,h.more,fun Q hq=>thin (st_cus1s o g hM rN rL bn bl hk (l:=s::C) (by omega) hin (by omega) Q (thin hq rfl (fun i b h=>match i,h with|0,h=>h|1,h=>h|2,h=>h|3,h=>h|4,h=>h|_+5,h=>h) rfl rfl)) rfl (fun i b h=>match i,h with|0,h=>h|1,h=>h|2,h=>h|3,h=>h|4,h=>h|_+5,h=>h) rfl rfl⟩
 |7,hk,_=>exact ⟨whyOb o y,N,L,C,⟨h.n1,h.n2,Nat.le_succ_of_le h.l1,h.l2,h.l3,h.c1,h.c2,h.c3,h.id,ofL_mem msL _ _ (by decide),h.dat,h.z.of (dateAt_of rfl rfl rfl rfl rfl rfl rfl rfl rfl rfl) h.z.l⟩,st_why o g hM rN rL rC bn bl bc hk⟩
 |8,hk,_=>exact ⟨arcOb o y,N,L,C,⟨h.n1,h.n2,Nat.le_succ_of_le h.l1,h.l2,h.l3,h.c1,h.c2,h.c3,h.id,h.msg,h.dat,h.z.of (dateAt_of rfl rfl rfl rfl rfl rfl rfl rfl rfl rfl) h.z.l⟩,st_arc o g hM rN rL rC bn bl bc hk⟩
 |_+9,_,hlt=>exact absurd hlt (by omega)
theorem ob_run {l:List Rw} {M:AV} (hM:closedA M=true):∀ (m i:Nat) (o:Ob) (N:List (List UInt8)) (L:List Lk) (C:List Cu),i+m=min l.length 10→OxI i o N L C→∃o' N' L' C',OxI 10 o' N' L' C'∧∀Q:AExit→St→Prop,Q (.exit 0) (obQ (min l.length 10) (l.map rwA) M o' N' L' C')→ALp Tryz.prog opts0.glob 0 (lpCode Tryz.prog 22 5) (obQ i (l.map rwA) M o N L C) Q
 | 0,i,o,N,L,C,hm,h=>by
  rw[Nat.add_zero] at hm
  have rN:=nsl_rv 1 1 N.length
  have rL:=nsl_rv 2 2 L.length
  have rC:=nsl_rv 3 2 C.length
  have bn:=nb_cl (closed_strs N) N.length
  have bl:=nb_cl (closed_flk L) L.length
  have bc:=nb_cl (closed_fcu C) C.length
  refine ⟨o,N,L,C,⟨h.n1,h.n2,Nat.le_trans h.l1 (by omega),h.l2,h.l3,h.c1,h.c2,h.c3,h.id,h.msg,h.dat,h.z⟩,fun Q hq=> ?_⟩
  rw[←hm] at hq
  unfold obQ at hq⊢
  have hc:=closed_rws l
  by_cases hi:i<10
  ·refine ALp.roundO (A:=aidJ [(4,3,.res (.bool false))] [] noSem [] []) (V1:=oW (.ofNat i) (l.map rwA) [] []) (F:=oW (.ofNat i) (l.map rwA) (obF o M (nsl 1 1 N.length) (nsl 2 2 L.length) (nsl 3 2 C.length)) []) (opt:=[]) (opt':=[(1,nb (N.map .str) N.length),(2,nb (flat (L.map lkA)) L.length),(3,nb (flat (C.map cuA)) C.length)]) (lk:=[]) (lk':=[(0,0),(1,1),(2,2),(3,3),(4,4)]) base0 aidJ_ok (LsOk.no rfl) .refl ?_
   rw[ob_endA]
   exact ⟨lss_f (by simp only[lenN_eq,List.length_map,Int.ofNat_eq_natCast];omega),⟨⟨⟨⟨rfl,hc⟩,⟨rfl,rfl⟩,trivial⟩,⟨⟨rfl,rfl⟩,⟨rfl,rfl⟩,trivial⟩,renR_ob (o:=o) hM (rN _ rfl) (rL _ rfl) (rC _ rfl),⟨rfl,rfl⟩,trivial⟩,⟨rfl,bn⟩,⟨rfl,bl⟩,⟨rfl,bc⟩,trivial⟩,hq⟩
  ·by_cases hl:i<l.length
   ·refine ALp.roundO (A:=aidJ [(4,3,.res (.bool true)),(4,6,.res (.bool false))] [] noSem [] []) (V1:=oW (.ofNat i) (l.map rwA) [] []) (F:=oW (.ofNat i) (l.map rwA) (obF o M (nsl 1 1 N.length) (nsl 2 2 L.length) (nsl 3 2 C.length)) []) (opt:=[]) (opt':=[(1,nb (N.map .str) N.length),(2,nb (flat (L.map lkA)) L.length),(3,nb (flat (C.map cuA)) C.length)]) (lk:=[]) (lk':=[(0,0),(1,1),(2,2),(3,3),(4,4)]) base0 aidJ_ok (LsOk.no rfl) .refl ?_
    rw[ob_endB]
    exact ⟨lss_t (by simp only[lenN_eq,List.length_map,Int.ofNat_eq_natCast];omega),lss_f (by simp only[Int.ofNat_eq_natCast];omega),⟨⟨⟨⟨rfl,hc⟩,⟨rfl,rfl⟩,trivial⟩,⟨⟨rfl,rfl⟩,⟨rfl,rfl⟩,trivial⟩,renR_ob (o:=o) hM (rN _ rfl) (rL _ rfl) (rC _ rfl),⟨rfl,rfl⟩,trivial⟩,⟨rfl,bn⟩,⟨rfl,bl⟩,⟨rfl,bc⟩,trivial⟩,hq⟩
   ·refine ALp.roundO (A:=aidJ [(4,3,.res (.bool false))] [] noSem [] []) (V1:=oW (.ofNat i) (l.map rwA) [] []) (F:=oW (.ofNat i) (l.map rwA) (obF o M (nsl 1 1 N.length) (nsl 2 2 L.length) (nsl 3 2 C.length)) []) (opt:=[]) (opt':=[(1,nb (N.map .str) N.length),(2,nb (flat (L.map lkA)) L.length),(3,nb (flat (C.map cuA)) C.length)]) (lk:=[]) (lk':=[(0,0),(1,1),(2,2),(3,3),(4,4)]) base0 aidJ_ok (LsOk.no rfl) .refl ?_
    rw[ob_endA]
    exact ⟨lss_f (by simp only[lenN_eq,List.length_map,Int.ofNat_eq_natCast];omega),⟨⟨⟨⟨rfl,hc⟩,⟨rfl,rfl⟩,trivial⟩,⟨⟨rfl,rfl⟩,⟨rfl,rfl⟩,trivial⟩,renR_ob (o:=o) hM (rN _ rfl) (rL _ rfl) (rC _ rfl),⟨rfl,rfl⟩,trivial⟩,⟨rfl,bn⟩,⟨rfl,bl⟩,⟨rfl,bc⟩,trivial⟩,hq⟩
 |m+1,i,o,N,L,C,hm,h=>by
  have hi:i<l.length:=by omega
  obtain ⟨o1,N1,L1,C1,h1,s1⟩:=ob_step (l:=l) (List.getElem?_eq_getElem hi) (by omega) hM h
  obtain ⟨o2,N2,L2,C2,h2,s2⟩:=ob_run (l:=l) hM m (i+1) o1 N1 L1 C1 (by omega) h1
  exact ⟨o2,N2,L2,C2,h2,fun Q hq=>s1 Q (s2 Q hq)⟩
theorem good_str (s:List UInt8):goodEl 1 (.str s):=⟨rfl,rfl⟩
theorem good_lk (l:Lk):goodEl 2 (lkA l):=⟨rfl,rfl⟩
theorem good_cu (c:Cu):goodEl 2 (cuA c):=⟨rfl,rfl⟩
def fr (l:List AV):AV:=match l with
 |[]=> .nilsl
 |a::t=> .fsl false (a::t)
theorem wk_fr (l:List AV):Wk (fr l) (.fsl false l):=match l with
 |[]=> .nil
 |_::_=> .refl _
theorem closed_fr {l:List AV} (h:closedAll l=true):closedA (fr l)=true:=match l,h with
 |[],_=>rfl
 |_::_,h=>h
theorem flat_strs:∀l:List (List UInt8),flat (l.map .str)=l.map AV.str
 |[]=>rfl
 |s::t=>by rw[List.map_cons,flat,flat_strs t];rfl
theorem frz_nsl {H:Heap} {id w:Nat} {es:List AV} {c:List AV} (hid:hget H id=nb c es.length) (hc:c=flat es) (hes:∀e∈es,goodEl w e) (hcl:closedAll es=true):Frz 0 H (nsl id w es.length) (fr es):=by
 cases es with
 |nil=>exact .closed _ rfl
 |cons a t=>exact .row rfl hid hc rfl hes hcl
theorem frz_ob {H:Heap} {o:Ob} {M N L C N' L' C':AV} (hM:closedA M=true) (hN:Frz 0 H N N') (hL:Frz 0 H L L') (hC:Frz 0 H C C'):Frz 0 H (.agg (obF o M N L C)) (.agg (obF o M N' L' C')):=by
 refine .agg ?_
 simp only[obF]
 repeat (first|exact FrzL.nil|refine FrzL.cons hN ?_|refine FrzL.cons hL ?_|refine FrzL.cons hC ?_|refine FrzL.cons (.closed _ hM) ?_|refine FrzL.cons (.closed _ rfl) ?_)
theorem wk_ob {o:Ob} {m:List UInt8} {N:List (List UInt8)} {L:List Lk} {C:List Cu}:Wk (.agg (obF o (.fsl false (toBytes m)) (fr (N.map .str)) (fr (L.map lkA)) (fr (C.map cuA)))) (obA {o with mat:=m,names:=N,links:=L,cust:=C}):=by
 refine .agg ?_
 simp only[obC,obF,matA,namA,lnkA,cusA]
 repeat (first|exact WkL.nil|refine WkL.cons (.refl _) ?_|refine WkL.cons (wk_fr _) ?_)
theorem closed_frO {o:Ob} {m:List UInt8} {N:List (List UInt8)} {L:List Lk} {C:List Cu}:closedA (.agg (obF o (.fsl false (toBytes m)) (fr (N.map .str)) (fr (L.map lkA)) (fr (C.map cuA))))=true:=
 closed_obF o (closedAll_toBytes m) (closed_fr (closed_strs N)) (closed_fr (closed_lks L)) (closed_fr (closed_cus C))
theorem fits_ob0 (o:Ob) (m:List AV) (n c:Nat):fitsT Tryz.prog 33 (.agg (obF o (.fsl false m) (nsl 1 1 n) .nilsl (nsl 3 2 c))) 37=true:=by
 cases n<;>cases c<;>kernel_rfl
theorem fits_ob1 (o:Ob) (m:List AV) (n k c:Nat):fitsT Tryz.prog 33 (.agg (obF o (.fsl false m) (nsl 1 1 n) (.rsl true 2 0 k 2) (nsl 3 2 c))) 37=true:=by
 cases n<;>cases c<;>kernel_rfl
def tyL:List Int:=[2,2,3,4,7]
def agL:List Int:=[3,3,0,4]
def mkL:List Int:=[396,12,4,384,0]
def nuL:List Nat:=[16,16,32,0,24]
theorem idx5 {T:Nat} {l:List Int} (hT:T=103) (h5:l.length=5) (n:Int):indexA Tryz.prog T (.agg (l.map I)) (I (n%5))=some (I (ofL l 0 n)):=by
 subst hT
 match l,h5 with
 | [a0,a1,a2,a3,a4],_=>
  exact idx_pick (T:=103) (d:=0) (l:=[a0,a1,a2,a3,a4]) (f:=I) (by simp) fun k x h=>by
   match k,h with
   |0,h=>obtain rfl:_=x:=Option.some.inj h;show indexA _ _ _ _=_;kernel_rfl
   |1,h=>obtain rfl:_=x:=Option.some.inj h;show indexA _ _ _ _=_;kernel_rfl
   |2,h=>obtain rfl:_=x:=Option.some.inj h;show indexA _ _ _ _=_;kernel_rfl
   |3,h=>obtain rfl:_=x:=Option.some.inj h;show indexA _ _ _ _=_;kernel_rfl
   |4,h=>obtain rfl:_=x:=Option.some.inj h;show indexA _ _ _ _=_;kernel_rfl
theorem idx_ag (n:Int):indexA Tryz.prog 104 (.agg (agL.map I)) (I (n%4))=some (I (ofL agL 0 n)):=
 idx_pick (T:=104) (d:=0) (l:=agL) (f:=I) (by decide) fun k x h=>by
  match k,h with
  |0,h=>obtain rfl:_=x:=Option.some.inj h;show indexA _ _ _ _=_;kernel_rfl
  |1,h=>obtain rfl:_=x:=Option.some.inj h;show indexA _ _ _ _=_;kernel_rfl
  |2,h=>obtain rfl:_=x:=Option.some.inj h;show indexA _ _ _ _=_;kernel_rfl
  |3,h=>obtain rfl:_=x:=Option.some.inj h;show indexA _ _ _ _=_;kernel_rfl
theorem idx_nu (n:Int):indexA Tryz.prog 103 (.agg (nuL.map fun n=>I (.ofNat n))) (I (n%5))=some (I (.ofNat (ofL nuL 0 n))):=
 idx_pick (T:=103) (d:=0) (l:=nuL) (f:=fun n=>I (.ofNat n)) (by decide) fun k x h=>by
  match k,h with
  |0,h=>obtain rfl:_=x:=Option.some.inj h;show indexA _ _ _ _=_;kernel_rfl
  |1,h=>obtain rfl:_=x:=Option.some.inj h;show indexA _ _ _ _=_;kernel_rfl
  |2,h=>obtain rfl:_=x:=Option.some.inj h;show indexA _ _ _ _=_;kernel_rfl
  |3,h=>obtain rfl:_=x:=Option.some.inj h;show indexA _ _ _ _=_;kernel_rfl
  |4,h=>obtain rfl:_=x:=Option.some.inj h;show indexA _ _ _ _=_;kernel_rfl
structure OxF (o:Ob):Prop where
 i:OxI 8 o o.names o.links o.cust
 m:o.mat.length≤32
theorem ob_at:loopsAt (fnCode Tryz.prog 22) 5=[lpCode Tryz.prog 22 5]:=by kernel_rfl
set_option maxRecDepth 20000 in
theorem object_sem (x:Rw) (l:List Rw):∃o,OxF o∧SC 22 [rwA x,.fsl false (l.map rwA)] (obA o):=by
 have hn:ofL nuL 0 (wrapA .i64 (x.b.tdiv 5))≤32:=(by decide:∀n∈nuL,n≤32) _ (ofL_mem nuL 0 _ (by decide))
 have hbytes:=bytes_sem (n:=ofL nuL 0 (wrapA .i64 (x.b.tdiv 5))) (by omega) x.c
 have hml:=byR_length (ofL nuL 0 (wrapA .i64 (x.b.tdiv 5))) (wrapA .u64 x.c)
 have hnu:=idx_nu (wrapA .i64 (x.b.tdiv 5))
 revert hbytes hml hnu hn
 generalize ofL nuL 0 (wrapA .i64 (x.b.tdiv 5))=n
 generalize byR n (wrapA .u64 x.c)=mat
 intro hn hbytes hml hnu
 have hcl:closedAll [rwA x,.fsl false (l.map rwA)]=true:=by
  have:=closed_rws l
  simp only[closedAll,closedA,this,rwA,rwC,Bool.and_self]
 obtain ⟨o,N,L,C,h,hrun⟩:=ob_run (l:=l) (M:= .fsl false (toBytes mat)) (closedAll_toBytes _) (min l.length 10) 0 (ob0 x (ofL idL [] x.a) (ofL tyL 0 x.b) (ofL agL 0 x.c) (ofL mkL 0 (wrapA .i64 (x.a.tdiv 12))) mat) [] [] [] (Nat.zero_add _)
  ⟨(fun _ h=>by cases h),.nil,Nat.le_refl _,.nil,(fun _ h=>by cases h),by simp,.nil,(fun _ h=>by cases h),ofL_mem idL [] _ (by decide),(by decide:([]:List UInt8)∈msL),rfl,⟨fun k hk=>by
   match k,hk with
   |0,hk=>cases hk
   |1,_=>rfl
   |2,_=>rfl
   |3,_=>rfl
   |4,_=>rfl
   |5,_=>rfl
   |6,_=>rfl
   |7,_=>rfl
   |8,_=>rfl
   |9,_=>rfl
   |_+10,_=>rfl,fun _=>⟨rfl,rfl,rfl⟩⟩⟩
 have hR:=closed_rws l
 match L,h,hrun with
 | [],h,hrun=>
  refine ⟨{o with mat:=mat,names:=N,links:=[],cust:=C},⟨⟨h.n1,h.n2,by simp,h.l2,h.l3,h.c1,h.c2,h.c3,h.id,h.msg,h.dat,h.z.of (dateAt_of rfl rfl rfl rfl rfl rfl rfl rfl rfl rfl) h.z.l⟩,by show mat.length≤32;omega⟩, ?_⟩
  refine fnK_semX (A:=obA0 (ofL idL [] x.a) (ofL tyL 0 x.b) (ofL agL 0 x.c) (ofL mkL 0 (wrapA .i64 (x.a.tdiv 12))) (.ofNat n) (toBytes mat) (obL (l.map rwA) (ob0 x (ofL idL [] x.a) (ofL tyL 0 x.b) (ofL agL 0 x.c) (ofL mkL 0 (wrapA .i64 (x.a.tdiv 12))) mat) o (toBytes mat) (.ofNat (min l.length 10)) (nsl 1 1 N.length) .nilsl (nsl 3 2 C.length) (nb (N.map .str) N.length) none (nb (flat (C.map cuA)) C.length))) base0 aidJ_ok
   (fnLs_of (LsOk.at1 rfl ob_at fun st Q hs=> .seenO base0.glob hs.1 (thin (hrun Q hs.2) rfl (fun i b h=>match i,h with|0,h=>h|1,h=>h|2,h=>h|3,h=>h|4,h=>h|_+5,h=>h) rfl rfl))) hcl ?_
  rw[ob_fn0]
  refine ⟨id_sem _,pick_sem _ (by decide) (by decide),idx5 (l:=tyL) rfl rfl _,pick_sem _ (by decide) (by decide),idx_ag _,pick_sem _ (by decide) (by decide),idx5 (l:=mkL) rfl rfl _,pick_sem _ (by decide) (by decide),hnu,hbytes,pick_sem _ (by decide) (by decide),pick_sem _ (by decide) (by decide),
   ⟨⟨⟨⟨rfl,hR⟩,⟨rfl,rfl⟩,trivial⟩,⟨⟨rfl,rfl⟩,⟨rfl,rfl⟩,trivial⟩,renR_ob (o:=ob0 x (ofL idL [] x.a) (ofL tyL 0 x.b) (ofL agL 0 x.c) (ofL mkL 0 (wrapA .i64 (x.a.tdiv 12))) mat) (closedAll_toBytes mat) (.same _ rfl) (.same _ rfl) (.same _ rfl),⟨rfl,rfl⟩,trivial⟩,trivial⟩,
   oblB_of (fits_ob0 o _ _ _) ?_⟩
  have f1:=frz_nsl (H:=[(4,some (.cells (obF o (.fsl false (toBytes mat)) (nsl 1 1 N.length) .nilsl (nsl 3 2 C.length)))),(0,some (.cells (obF o (.fsl false (toBytes mat)) (nsl 1 1 N.length) .nilsl (nsl 3 2 C.length)))),(4,some (.cells zC)),(1,nb (N.map .str) N.length),(2,none),(3,nb (flat (C.map cuA)) C.length)]) (id:=1) (w:=1) (es:=N.map .str) (c:=N.map .str) (by rw[List.length_map];rfl) (flat_strs N).symm (fun e he=>by obtain ⟨s,_,rfl⟩:=List.mem_map.1 he;exact good_str s) (closed_strs N)
  have f3:=frz_nsl (H:=[(4,some (.cells (obF o (.fsl false (toBytes mat)) (nsl 1 1 N.length) .nilsl (nsl 3 2 C.length)))),(0,some (.cells (obF o (.fsl false (toBytes mat)) (nsl 1 1 N.length) .nilsl (nsl 3 2 C.length)))),(4,some (.cells zC)),(1,nb (N.map .str) N.length),(2,none),(3,nb (flat (C.map cuA)) C.length)]) (id:=3) (w:=2) (es:=C.map cuA) (c:=flat (C.map cuA)) (by rw[List.length_map];rfl) rfl (fun e he=>by obtain ⟨s,_,rfl⟩:=List.mem_map.1 he;exact good_cu s) (closed_cus C)
  rw[List.length_map] at f1 f3
  exact ⟨_,(frz_ob (M:= .fsl false (toBytes mat)) (closedAll_toBytes mat) f1 (.closed _ rfl) f3).out,closed_frO (L:=[]),wk_ob (L:=[])⟩
 | s::L,h,hrun=>
  have hlen:((s::L).take 8).length≤8:=List.length_take_le _ _
  refine ⟨{o with mat:=mat,names:=N,links:=(s::L).take 8,cust:=C},⟨⟨h.n1,h.n2,hlen,h.l2.sublist (List.take_sublist _ _),fun y hy=>h.l3 y (List.mem_of_mem_take hy),h.c1,h.c2,h.c3,h.id,h.msg,h.dat,h.z.of (dateAt_of rfl rfl rfl rfl rfl rfl rfl rfl rfl rfl) h.z.l⟩,by show mat.length≤32;omega⟩, ?_⟩
  refine fnK_semX (A:=obA0 (ofL idL [] x.a) (ofL tyL 0 x.b) (ofL agL 0 x.c) (ofL mkL 0 (wrapA .i64 (x.a.tdiv 12))) (.ofNat n) (toBytes mat) (obL (l.map rwA) (ob0 x (ofL idL [] x.a) (ofL tyL 0 x.b) (ofL agL 0 x.c) (ofL mkL 0 (wrapA .i64 (x.a.tdiv 12))) mat) o (toBytes mat) (.ofNat (min l.length 10)) (nsl 1 1 N.length) (.rsl true 2 0 (s::L).length 2) (nsl 3 2 C.length) (nb (N.map .str) N.length) (some (.cells (flat ((s::L).map lkA)))) (nb (flat (C.map cuA)) C.length))) base0 aidJ_ok
   (fnLs_of (LsOk.at1 rfl ob_at fun st Q hs=> .seenO base0.glob hs.1 (thin (hrun Q hs.2) rfl (fun i b h=>match i,h with|0,h=>h|1,h=>h|2,h=>h|3,h=>h|4,h=>h|_+5,h=>h) rfl rfl))) hcl ?_
  rw[ob_fn1]
  refine ⟨id_sem _,pick_sem _ (by decide) (by decide),idx5 (l:=tyL) rfl rfl _,pick_sem _ (by decide) (by decide),idx_ag _,pick_sem _ (by decide) (by decide),idx5 (l:=mkL) rfl rfl _,pick_sem _ (by decide) (by decide),hnu,hbytes,pick_sem _ (by decide) (by decide),pick_sem _ (by decide) (by decide),
   ⟨⟨⟨⟨rfl,hR⟩,⟨rfl,rfl⟩,trivial⟩,⟨⟨rfl,rfl⟩,⟨rfl,rfl⟩,trivial⟩,renR_ob (o:=ob0 x (ofL idL [] x.a) (ofL tyL 0 x.b) (ofL agL 0 x.c) (ofL mkL 0 (wrapA .i64 (x.a.tdiv 12))) mat) (closedAll_toBytes mat) (.same _ rfl) (.same _ rfl) (.same _ rfl),⟨rfl,rfl⟩,trivial⟩,trivial⟩,
   mtB_of (fun e=>oblB_of ?_ (oblB_of (fits_ob1 o _ _ _ _) ?_)) (fun e=>oblB_of (fits_ob1 o _ _ _ _) ?_)⟩
  ·have e:=ltInt_iff.1 e
   simp only[Int.ofNat_eq_natCast] at e
   exact Nat.ble_eq_true_of_le (by omega)
  ·have e:=ltInt_iff.1 e
   simp only[Int.ofNat_eq_natCast] at e
   have e8:((s::L).take 8).length=8:=by rw[List.length_take];omega
   have hcut:cutElems 2 8 ((flat ((s::L).map lkA)).drop 0)=some (((s::L).take 8).map lkA):=by
    have:=cutElems_flat (sz:=2) (es:=((s::L).take 8).map lkA) (flat (((s::L).drop 8).map lkA)) (fun e he=>by obtain ⟨s,_,rfl⟩:=List.mem_map.1 he;exact good_lk s)
    rw[List.length_map,e8,←flat_append,←List.map_append,List.take_append_drop] at this
    exact this
   have f1:=frz_nsl (H:=[(4,some (.cells (obF o (.fsl false (toBytes mat)) (nsl 1 1 N.length) (.rsl true 2 0 8 2) (nsl 3 2 C.length)))),(0,some (.cells (obF o (.fsl false (toBytes mat)) (nsl 1 1 N.length) (.rsl true 2 0 8 2) (nsl 3 2 C.length)))),(4,some (.cells zC)),(1,nb (N.map .str) N.length),(2,some (.cells (flat ((s::L).map lkA)))),(3,nb (flat (C.map cuA)) C.length)]) (id:=1) (w:=1) (es:=N.map .str) (c:=N.map .str) (by rw[List.length_map];rfl) (flat_strs N).symm (fun e he=>by obtain ⟨s,_,rfl⟩:=List.mem_map.1 he;exact good_str s) (closed_strs N)
   have f2:Frz 0 [(4,some (.cells (obF o (.fsl false (toBytes mat)) (nsl 1 1 N.length) (.rsl true 2 0 8 2) (nsl 3 2 C.length)))),(0,some (.cells (obF o (.fsl false (toBytes mat)) (nsl 1 1 N.length) (.rsl true 2 0 8 2) (nsl 3 2 C.length)))),(4,some (.cells zC)),(1,nb (N.map .str) N.length),(2,some (.cells (flat ((s::L).map lkA)))),(3,nb (flat (C.map cuA)) C.length)] (.rsl true 2 0 8 2) (fr (((s::L).take 8).map lkA)):= .rsl rfl rfl hcut (FrzL.closed _ (closed_lks _))
   have f3:=frz_nsl (H:=[(4,some (.cells (obF o (.fsl false (toBytes mat)) (nsl 1 1 N.length) (.rsl true 2 0 8 2) (nsl 3 2 C.length)))),(0,some (.cells (obF o (.fsl false (toBytes mat)) (nsl 1 1 N.length) (.rsl true 2 0 8 2) (nsl 3 2 C.length)))),(4,some (.cells zC)),(1,nb (N.map .str) N.length),(2,some (.cells (flat ((s::L).map lkA)))),(3,nb (flat (C.map cuA)) C.length)]) (id:=3) (w:=2) (es:=C.map cuA) (c:=flat (C.map cuA)) (by rw[List.length_map];rfl) rfl (fun e he=>by obtain ⟨s,_,rfl⟩:=List.mem_map.1 he;exact good_cu s) (closed_cus C)
   rw[List.length_map] at f1 f3
   exact ⟨_,(frz_ob (M:= .fsl false (toBytes mat)) (closedAll_toBytes mat) f1 f2 f3).out,closed_frO (L:=((s::L).take 8)),wk_ob (L:=((s::L).take 8))⟩
  ·have e:=ltInt_false.1 e
   simp only[Int.ofNat_eq_natCast] at e
   have e8:(s::L).take 8=s::L:=List.take_of_length_le (by omega)
   rw[e8]
   have f1:=frz_nsl (H:=[(4,some (.cells (obF o (.fsl false (toBytes mat)) (nsl 1 1 N.length) (.rsl true 2 0 (s::L).length 2) (nsl 3 2 C.length)))),(0,some (.cells (obF o (.fsl false (toBytes mat)) (nsl 1 1 N.length) (.rsl true 2 0 (s::L).length 2) (nsl 3 2 C.length)))),(4,some (.cells zC)),(1,nb (N.map .str) N.length),(2,some (.cells (flat ((s::L).map lkA)))),(3,nb (flat (C.map cuA)) C.length)]) (id:=1) (w:=1) (es:=N.map .str) (c:=N.map .str) (by rw[List.length_map];rfl) (flat_strs N).symm (fun e he=>by obtain ⟨s,_,rfl⟩:=List.mem_map.1 he;exact good_str s) (closed_strs N)
   have f2:Frz 0 [(4,some (.cells (obF o (.fsl false (toBytes mat)) (nsl 1 1 N.length) (.rsl true 2 0 (s::L).length 2) (nsl 3 2 C.length)))),(0,some (.cells (obF o (.fsl false (toBytes mat)) (nsl 1 1 N.length) (.rsl true 2 0 (s::L).length 2) (nsl 3 2 C.length)))),(4,some (.cells zC)),(1,nb (N.map .str) N.length),(2,some (.cells (flat ((s::L).map lkA)))),(3,nb (flat (C.map cuA)) C.length)] (.rsl true 2 0 (s::L).length 2) (fr ((s::L).map lkA)):=by
    have:=Frz.row (n:=0) (own:=true) (id:=2) (len:=(s::L).length) (es:=(s::L).map lkA) (sz:=2) (h:=[(4,some (.cells (obF o (.fsl false (toBytes mat)) (nsl 1 1 N.length) (.rsl true 2 0 (s::L).length 2) (nsl 3 2 C.length)))),(0,some (.cells (obF o (.fsl false (toBytes mat)) (nsl 1 1 N.length) (.rsl true 2 0 (s::L).length 2) (nsl 3 2 C.length)))),(4,some (.cells zC)),(1,nb (N.map .str) N.length),(2,some (.cells (flat ((s::L).map lkA)))),(3,nb (flat (C.map cuA)) C.length)]) rfl rfl rfl (by rw[List.length_map]) (fun e he=>by obtain ⟨s,_,rfl⟩:=List.mem_map.1 he;exact good_lk s) (closed_lks _)
    exact this
   have f3:=frz_nsl (H:=[(4,some (.cells (obF o (.fsl false (toBytes mat)) (nsl 1 1 N.length) (.rsl true 2 0 (s::L).length 2) (nsl 3 2 C.length)))),(0,some (.cells (obF o (.fsl false (toBytes mat)) (nsl 1 1 N.length) (.rsl true 2 0 (s::L).length 2) (nsl 3 2 C.length)))),(4,some (.cells zC)),(1,nb (N.map .str) N.length),(2,some (.cells (flat ((s::L).map lkA)))),(3,nb (flat (C.map cuA)) C.length)]) (id:=3) (w:=2) (es:=C.map cuA) (c:=flat (C.map cuA)) (by rw[List.length_map];rfl) rfl (fun e he=>by obtain ⟨s,_,rfl⟩:=List.mem_map.1 he;exact good_cu s) (closed_cus C)
   rw[List.length_map] at f1 f3
   exact ⟨_,(frz_ob (M:= .fsl false (toBytes mat)) (closedAll_toBytes mat) f1 f2 f3).out,closed_frO (L:=(s::L)),wk_ob (L:=(s::L))⟩
structure Okay (o:Ob):Prop where
 fit:FitO o
 n:∀s∈o.names,s∈texts
 l:∀x∈o.links,x.id∈texts
 c:∀x∈o.cust,x.text∈texts
 i:o.id∈texts
 m:o.msg.length≤8
theorem texts_short:∀s∈texts,s.length≤8:=by decide
theorem ok_txt {s:List UInt8} (h:s.length≤8):okI big (txt s):=⟨Nat.le_trans h (by decide),by simp[big],trivial⟩
theorem ok_num (y n:Int):okI big (numI y n):=⟨by simp[big],by simp[big],trivial⟩
theorem one_len {b:Bool} {x:It}:(oneL b x).length≤1:=by cases b<;>simp[oneL]
theorem one_mem {b:Bool} {x y:It} (h:y∈oneL b x):y=x:=by
 cases b with
 |true=>simpa [oneL] using h
 |false=>cases h
theorem ok_kids {s:List UInt8} (h:s.length≤8) (a b c n:Int) (l:List It) (hl:l=[prt a b n,.mk c 7 0 s []]):okI big (whl l):=by
 subst hl
 simp[whl,vlV,okI,okIs,prt,big]
 omega
theorem Okay.g {o:Ob} (h:Okay o):∀k,OkG o k:=by
 intro k
 have t:=texts_short
 cases k with
 | uid=>exact ⟨by simp[getK],fun x hx=>by
   simp only[getK,List.mem_singleton] at hx;subst hx;exact ok_txt (t _ h.i)⟩
 | nam=>exact ⟨by have:=h.fit.n;simp only[getK,List.length_map];omega,fun x hx=>by
   obtain ⟨s,hs,rfl⟩:=List.mem_map.1 hx;exact ok_txt (t _ (h.n s hs))⟩
 | typ=>exact ⟨by simp[getK],fun x hx=>by
   simp only[getK,List.mem_singleton] at hx;subst hx;exact ok_num _ _⟩
 |alg=>exact ⟨Nat.le_trans one_len (by decide),fun x hx=>by rw[one_mem hx];exact ok_num _ _⟩
 |len=>exact ⟨Nat.le_trans one_len (by decide),fun x hx=>by rw[one_mem hx];exact ok_num _ _⟩
 | mask=>exact ⟨by simp[getK],fun x hx=>by
   simp only[getK,List.mem_singleton] at hx;subst hx;exact ok_num _ _⟩
 | sta=>exact ⟨by simp[getK],fun x hx=>by
   simp only[getK,List.mem_singleton] at hx;subst hx;exact ok_num _ _⟩
 |dat k=>exact ⟨Nat.le_trans one_len (by decide),fun x hx=>by rw[one_mem hx];exact ok_num _ _⟩
 | why=>exact ⟨Nat.le_trans one_len (by decide),fun x hx=>by
   rw[one_mem hx]
   have hm:=h.m
   simp only[whyI]
   match o.msg,hm with
   |[],_=>simp[whl,vlV,okI,okIs,prt,msgI,big]
   |a::r,hm=>
    simp only[List.length_cons] at hm
    simp[whl,vlV,okI,okIs,prt,msgI,big]
    omega⟩
 | lnk=>exact ⟨by have:=h.fit.l;simp only[getK,List.length_map];omega,fun x hx=>by
   obtain ⟨s,hs,rfl⟩:=List.mem_map.1 hx
   exact ok_kids (t _ (h.l s hs)) _ _ _ _ _ rfl⟩
 | lim=>exact ⟨Nat.le_trans one_len (by decide),fun x hx=>by
   rw[one_mem hx]
   simp[limI,whl,vlV,okI,okIs,prt,big]⟩
 | cus s=>exact ⟨by
   have:=h.fit.c
   simp only[getK,List.length_map]
   exact Nat.le_trans (List.length_filter_le _ _) (by omega),fun x hx=>by
   obtain ⟨c,hc,rfl⟩:=List.mem_map.1 hx
   exact ok_txt (t _ (h.c c (List.mem_filter.1 hc).1))⟩
theorem okay_of {o:Ob} (h:OxF o):Okay o:=by
 have hc:=h.i.names
 refine ⟨⟨by omega,h.i.l1,h.i.c1,Nat.le_trans h.m (by decide)⟩,fun s hs=> ?_,fun s hs=> ?_,fun s hs=> ?_, ?_, ?_⟩
 ·exact (by decide:∀s∈nmL,s∈texts) s (h.i.n1 s hs)
 ·exact (by decide:∀s∈idL,s∈texts) _ (h.i.l3 s hs)
 ·exact (by decide:∀s∈ctL,s∈texts) _ (h.i.c3 s hs).2
 ·exact (by decide:∀s∈idL,s∈texts) _ h.i.id
 ·exact (by decide:∀s∈msL,s.length≤8) _ h.i.msg
theorem mem_put {α:Type} {l:List α} {i:Nat} {x y:α} (h:y∈putL l i x):y∈l∨y=x:=by
 simp only[putL,List.mem_append,List.mem_cons] at h
 rcases h with h|h|h
 ·exact .inl (List.mem_of_mem_take h)
 ·exact .inr h
 ·exact .inl (List.mem_of_mem_drop h)
theorem len_put {α:Type} {l:List α} {i n:Nat} {x:α} (h:i≤l.length) (h1:l.length≤n) (h2:i<n):(putL l i x).length≤n:=by
 simp only[putL,List.length_append,List.length_cons,List.length_take,List.length_drop]
 omega
theorem txI_kid {v:It} (h:txI v) (i:Nat):itD (kid v i)∈texts:=by
 unfold kid
 cases hk:(itK v)[i]? with
 |none=>exact txI_d h
 | some k=>
  have:∀ (l:List It),txIs l→∀ (i:Nat) (k:It),l[i]? =some k→txI k:=by
   intro l
   induction l with
   |nil=>intro _ i k h;simp at h
   |cons a r ih=>
    intro hl i k h
    cases i with
    |zero=>simp at h;subst h;exact hl.1
    |succ i=>exact ih hl.2 i k (by simpa using h)
  refine txI_d (this (itK v) ?_ i k hk)
  cases v
  exact h.2
theorem Okay.date {o:Ob} (h:Okay o) (d:Dt) (k:Nat):Okay (setDate o d k):=by
 have e:∀p:Ob,p.names=o.names→p.links=o.links→p.cust=o.cust→p.mat=o.mat→p.id=o.id→p.msg=o.msg→Okay p:=fun p h1 h2 h3 h4 h5 h6=>
  ⟨⟨by rw[h1];exact h.fit.n,by rw[h2];exact h.fit.l,by rw[h3];exact h.fit.c,by rw[h4];exact h.fit.m⟩,by rw[h1];exact h.n,by rw[h2];exact h.l,by rw[h3];exact h.c,by rw[h5];exact h.i,by rw[h6];exact h.m⟩
 unfold setDate
 split<;>exact e _ rfl rfl rfl rfl rfl rfl
theorem Okay.put {o:Ob} (h:Okay o) {k:Kd} {j:Nat} (hj:idxOk o j k) {v:It} (hv:txI v):Okay (putK o j v k):=by
 cases k with
 | nam=>exact ⟨⟨len_put hj.1 h.fit.n hj.2,h.fit.l,h.fit.c,h.fit.m⟩,fun s hs=>by
   rcases mem_put hs with hs|rfl
   ·exact h.n s hs
   ·exact txI_d hv,h.l,h.c,h.i,h.m⟩
 |alg=>exact ⟨⟨h.fit.n,h.fit.l,h.fit.c,h.fit.m⟩,h.n,h.l,h.c,h.i,h.m⟩
 |len=>exact ⟨⟨h.fit.n,h.fit.l,h.fit.c,h.fit.m⟩,h.n,h.l,h.c,h.i,h.m⟩
 |mask=>exact ⟨⟨h.fit.n,h.fit.l,h.fit.c,h.fit.m⟩,h.n,h.l,h.c,h.i,h.m⟩
 |dat k=>exact h.date _ k
 | lnk=>exact ⟨⟨h.fit.n,len_put hj.1 h.fit.l hj.2,h.fit.c,h.fit.m⟩,h.n,fun s hs=>by
   rcases mem_put hs with hs|rfl
   ·exact h.l s hs
   ·exact txI_kid hv 1,h.c,h.i,h.m⟩
 |lim=>exact ⟨⟨h.fit.n,h.fit.l,h.fit.c,h.fit.m⟩,h.n,h.l,h.c,h.i,h.m⟩
 | cus s=>
  have hp:=place_le (o:=o) (s:=s) (j:=j) (by rcases hj with hj|hj<;>omega)
  have h6:placeAt o s j<6:=by
   have:=h.fit.c
   rcases hj with hj|hj
   ·have:=hp.2.2 hj;omega
   ·have:=hp.2.1;omega
  exact ⟨⟨h.fit.n,h.fit.l,len_put hp.2.1 h.fit.c h6,h.fit.m⟩,h.n,h.l,fun c hc=>by
   rcases mem_put hc with hc|rfl
   ·exact h.c c hc
   ·exact txI_d hv,h.i,h.m⟩
 |_=>exact h
def cntC (s:List UInt8) (l:List Cu):Nat:=(l.filter fun c=>beqBytes c.name s).length
def cusTl:List Cu→List Cu→List At
 |_,[]=>[]
 |pre,c::r=>⟨c.name,.ofNat (cntC c.name pre),txt c.text⟩::cusTl (pre++[c]) r
def stdT (o:Ob):List Kd→List At
 |[]=>[]
 |k::r=>tellL (nameK k) (getK o k) 0++stdT o r
def allS (o:Ob):List At:=stdT o kinds++cusTl [] o.cust
def ofN (s:List UInt8) (l:List At):List At:=l.filter fun a=>beqBytes a.name s
theorem ofN_app (s:List UInt8) (l r:List At):ofN s (l++r)=ofN s l++ofN s r:=List.filter_append ..
theorem beqBytes_no {a b:List UInt8} (h:a≠b):beqBytes a b=false:=by
 cases hb:beqBytes a b with
 |false=>rfl
 |true=>exact absurd (beqBytes_iff.1 hb) h
theorem ofN_tell_same (s:List UInt8):∀ (l:List It) (i:Nat),ofN s (tellL s l i)=tellL s l i
 |[],_=>rfl
 |v::r,i=>by
  have ih:=ofN_tell_same s r (i+1)
  unfold ofN at ih⊢
  rw[tellL,List.filter_cons,ih,if_pos (beqBytes_iff.2 rfl)]
theorem ofN_tell_no {s n:List UInt8} (h:n≠s):∀ (l:List It) (i:Nat),ofN s (tellL n l i)=[]
 |[],_=>rfl
 |v::r,i=>by
  have ih:=ofN_tell_no h r (i+1)
  unfold ofN at ih⊢
  rw[tellL,List.filter_cons,ih,beqBytes_no h]
  rfl
theorem findL_none {s:List UInt8}:∀ {l:List Kd},(∀k∈l,nameK k≠s)→findL s l=none
 |[],_=>rfl
 |a::r,h=>by rw[findL,beqBytes_no (h a (by simp)),findL_none fun k hk=>h k (by simp[hk])]
theorem ofN_std_no (o:Ob) {s:List UInt8}:∀ {l:List Kd},(∀k∈l,nameK k≠s)→ofN s (stdT o l)=[]
 |[],_=>rfl
 |a::r,h=>by rw[stdT,ofN_app,ofN_tell_no (h a (by simp)),ofN_std_no o fun k hk=>h k (by simp[hk])];rfl
theorem ofN_std (o:Ob) (s:List UInt8):∀ {l:List Kd},(l.map nameK).Nodup→ofN s (stdT o l)=match findL s l with
  |none=>[]
  |some k=>tellL s (getK o k) 0
 |[],_=>rfl
 | a::r,h=>by
  rw[List.map_cons,List.nodup_cons] at h
  rw[stdT,ofN_app,findL]
  cases hb:beqBytes (nameK a) s with
  |true=>
   have e:=beqBytes_iff.1 hb
   subst e
   rw[ofN_tell_same,ofN_std_no o fun k hk e=>h.1 (List.mem_map.2 ⟨k,hk,e⟩),List.append_nil]
  |false=>
   have e:nameK a≠s:=fun e=>by rw[beqBytes_iff.2 e] at hb;cases hb
   rw[ofN_tell_no e,ofN_std o s h.2,List.nil_append]
theorem cntC_snoc (s:List UInt8) (pre:List Cu) (c:Cu):cntC s (pre++[c])=cntC s pre+(match beqBytes c.name s with|true=>1|false=>0):=by
 unfold cntC
 rw[List.filter_append,List.length_append,List.filter_cons]
 cases beqBytes c.name s<;>rfl
theorem ofN_cus (s:List UInt8):∀ (l pre:List Cu),ofN s (cusTl pre l)=tellL s ((l.filter fun c=>beqBytes c.name s).map fun c=>txt c.text) (cntC s pre)
 |[],_=>rfl
 | c::r,pre=>by
  have ih:=ofN_cus s r (pre++[c])
  rw[cntC_snoc] at ih
  unfold ofN at ih⊢
  rw[cusTl,List.filter_cons,ih,List.filter_cons]
  cases hb:beqBytes c.name s with
  |true=>
   have e:=beqBytes_iff.1 hb
   subst e
   rfl
  |false=>rfl
structure CusOk (c:Bool) (s:List UInt8) (o:Ob):Prop where
 t:c=true→∀k∈kinds,nameK k≠s
 f:c=false→∀x∈o.cust,x.name≠s
theorem kinds_nodup:(kinds.map nameK).Nodup:=by decide
theorem of_all {c:Bool} {s:List UInt8} {o:Ob} (h:CusOk c s o):ofN s (allS o)=ofS c o s:=by
 rw[allS,ofN_app,ofN_std o s kinds_nodup,ofN_cus,ofS]
 cases c with
 |true=>
  rw[findL_none (h.t rfl)]
  rfl
 |false=>
  have hf:(o.cust.filter fun c=>beqBytes c.name s)=[]:=List.filter_eq_nil_iff.2 fun x hx=>by rw[beqBytes_no (h.f rfl x hx)];simp
  rw[hf]
  rw[show ([]:List Cu).map (fun c=>txt c.text)=[] from rfl,show ∀n,tellL s [] n=[] from fun _=>rfl,List.append_nil]
  rfl
theorem all_len (o:Ob):4≤(allS o).length:=by
 simp only[allS,kinds,stdT,List.length_append,tell_length]
 simp only[getK,List.length_singleton]
 omega
theorem tell_name {s:List UInt8} {a:At}:∀ {l:List It} {i:Nat},a∈tellL s l i→a.name=s
 |[],_,h=>by cases h
 |v::r,i,h=>by
  rcases List.mem_cons.1 h with h|h
  ·subst h;rfl
  ·exact tell_name h
theorem std_name {o:Ob} {a:At}:∀ {l:List Kd},a∈stdT o l→∃k∈l,a.name=nameK k
 |[],h=>by cases h
 | k::r,h=>by
  rcases List.mem_append.1 h with h|h
  ·exact ⟨k,by simp,tell_name h⟩
  ·obtain ⟨j,h1,h2⟩:=std_name h
   exact ⟨j,by simp[h1],h2⟩
theorem cusTl_name {a:At}:∀ {l pre:List Cu},a∈cusTl pre l→∃c∈l,a.name=c.name
 |[],_,h=>by cases h
 | c::r,pre,h=>by
  rcases List.mem_cons.1 h with h|h
  ·subst h;exact ⟨c,by simp,rfl⟩
  ·obtain ⟨d,h1,h2⟩:=cusTl_name h
   exact ⟨d,by simp[h1],h2⟩
noncomputable section
def alV0 (T O:List AV):View:=⟨[(3,.nilsl),(9,.fsl true T),(10,I 20),(11,I 0)],[(1,.ptr 0 0)],[(0,.cells O,.whole)],1,49⟩
def alV1 (i:Int) (k:Nat) (T O es:List AV):View:=⟨[(9,.fsl true T),(10,I 20),(11,I i)],[(1,.ptr 0 0),(3,.rsl true 1 0 k 7)],[(0,.cells O,.whole),(1,.cells es,.whole)],2,49⟩
def alA (W:List AV) (Ls:List AV):Aid:=aidJ [(4,0,.res (.fptr W 0))] [] (manyS [(83,.fsl false Ls)]) [] []
@[simp] abbrev zn7:=(some 0=some 0∧0=0)
@[simp] abbrev zn11 (C L M N':AV) (O:List AV) (o:Ob):=((obF o M N' L C)=O∧closedAll O=true)
abbrev zn12 (a d g m p r re ro:AV) (h:RowH):=[AV.str h.1,I h.2,AV.bool h.3,AV.bool h.4,a,m,re,g,r,p,d,ro]
@[simp] abbrev zn13 (T:List AV):=(AV.fsl true T=AV.fsl true T∧closedA (AV.fsl true T)=true)
theorem al_r0 (h:RowH) (a m re g r p d ro:AV) (A:AV) (R T O es':List AV) (k':Nat) (j:Int) (N:Prop) (o:Ob) (M N' L C:AV) (Q:AExit→St→Prop):wpK Tryz.prog opts0 40 (alA (rowW h a m re g r p d ro) (A::R)) (lpCode Tryz.prog 40 4) (alV0 T (obF o M N' L C)).st (roundP 0 [(0,0),(1,10)] (alV1 j k' T O es') N [(0,0)] (alV0 T (obF o M N' L C)) Q)=
  (indexAddrA Tryz.prog 132 (AV.fsl true T) (I 0)=some (AV.fptr (zn12 a d g m p r re ro h) 0)∧oblB (fitsT Tryz.prog 89 (AV.agg (zn12 a d g m p r re ro h)) 12) (SC 83 [AV.agg (zn12 a d g m p r re ro h),AV.agg (obF o M N' L C)] (AV.fsl false (A::R))∧oblB (allSize 7 (A::R)&&(lenN (A::R)*96).ble 140737488355328) ((((zn13 T)∧(I 20=I 20∧true=true)∧(I 1=I j∧closedA (I j)=true)∧True)∧(zn7∧(true=true∧some 10=some 10∧0=0∧k'=lenN (A::R)∧7=7)∧True)∧(zn11 C L M N' O o)∧(flat (A::R)=es'∧closedAll es'=true)∧True)∧N))):=by kernel_rfl
@[simp] abbrev zn19 (k:Nat):=(true=true∧some 1=some 1∧0=0∧k=k∧7=7)
theorem al_r1 (h:RowH) (a m re g r p d ro:AV) (Ls T O es es':List AV) (k k':Nat) (i j:Int) (N:Prop) (o:Ob) (M N' L C:AV) (Q:AExit→St→Prop):wpK Tryz.prog opts0 40 (alA (rowW h a m re g r p d ro) Ls) (lpCode Tryz.prog 40 4) (alV1 i k T (obF o M N' L C) es).st (roundP 0 [(0,0),(1,11)] (alV1 j k' T O es') N [(0,0),(1,1)] (alV1 i k T (obF o M N' L C) es) Q)=
  (mtB (ltInt i 20) (indexAddrA Tryz.prog 132 (AV.fsl true T) (I i)=some (AV.fptr (zn12 a d g m p r re ro h) 0)∧oblB (fitsT Tryz.prog 89 (AV.agg (zn12 a d g m p r re ro h)) 12) (SC 83 [AV.agg (zn12 a d g m p r re ro h),AV.agg (obF o M N' L C)] (AV.fsl false Ls)∧oblB (allSize 7 Ls&&(((k+lenN Ls)*96).ble 140737488355328&&(allOne (flat Ls)&&true))) (oblB ((lenN es).beq (k*7)) ((((zn13 T)∧(I 20=I 20∧true=true)∧(I (wrapA IntKind.i64 (i+1))=I j∧closedA (I j)=true)∧True)∧(zn7∧(true=true∧some 11=some 11∧0=0∧k'=k+lenN Ls∧7=7)∧True)∧(zn11 C L M N' O o)∧(es++flat Ls=es'∧closedAll es'=true)∧True)∧N)))) ((((zn13 T)∧(I 20=I 20∧true=true)∧(I i=I i∧closedA (I i)=true)∧True)∧(zn7∧(zn19 k)∧True)∧((obF o M N' L C)=(obF o M N' L C)∧closedAll (obF o M N' L C)=true)∧(es=es∧closedAll es=true)∧True)∧Q (AExit.exit 0) (alV1 i k T (obF o M N' L C) es).st)):=by kernel_rfl
def auV (n:Int) (i:Int) (k:Nat) (C O es:List AV) (b:Blk):View:=⟨[(23,.fsl false C),(24,I n),(25,I i)],[(1,.ptr 0 0),(3,.rsl true 1 0 k 7),(6,.map 2)],[(0,.cells O,.whole),(1,.cells es,.whole),(2,b,.whole)],3,49⟩
def auF (k:Nat) (es:List AV):View:=⟨[],[(3,.rsl true 0 0 k 7)],[(0,.cells es,.whole)],1,49⟩
def auA (n t:List UInt8):Aid:=aidJ [(10,0,.res (.fptr [.str n,.str t] 0))] [] noSem [92] []
@[simp] abbrev zn1 (Q:AExit→St→Prop) (es:List AV) (k:Nat):=((True∧((zn19 k)∧True)∧(es=es∧closedAll es=true)∧True)∧Q (AExit.exit 2) (auF k es).st)
abbrev zn2 (t:List UInt8):=[AV.agg [AV.str [120,45,97],I 0,I 4325387,I 7,I 0,AV.fsl false (toBytes t),AV.nilsl]]
@[simp] abbrev zn6 (Cs:List AV):=(AV.fsl false Cs=AV.fsl false Cs∧closedA (AV.fsl false Cs)=true)
@[simp] abbrev zn10 (n:Int):=(I n=I n∧closedA (I n)=true)
abbrev zn15 (t:List UInt8):=(AV.fptr [AV.str [120,45,97],AV.str t] 0)
@[simp] abbrev zn22 (k k':Nat) (t:List UInt8):=(zn7∧(true=true∧some 20=some 20∧0=0∧k'=k+lenN (zn2 t)∧7=7)∧some 2=some 2∧True)
theorem au__a (t:List UInt8) (p' n i j:Int) (k k':Nat) (Cs O es es':List AV) (N:Prop) (o:Ob) (M N' L C:AV) (Q:AExit→St→Prop):wpK Tryz.prog opts0 40 (auA [120,45,97] t) (lpCode Tryz.prog 40 10) (auV n i k Cs (obF o M N' L C) es (.mapb 0 [] [])).st (roundP 0 [(0,0),(1,20),(2,2)] (auV n j k' Cs O es' (.mapb 1 [0] [(.str [120,45,97],I p')])) N [(0,1)] (auF k es) Q)=
  (mtB (ltInt i n) (indexAddrA Tryz.prog 29 (AV.fsl false Cs) (I i)=some (zn15 t)∧oblB (allSize 7 (zn2 t)&&(((k+lenN (zn2 t))*96).ble 140737488355328&&(allOne (flat (zn2 t))&&true))) (oblB ((lenN es).beq (k*7)) ((((zn6 Cs)∧(zn10 n)∧(I (wrapA IntKind.i64 (i+1))=I j∧closedA (I j)=true)∧True)∧(zn22 k k' t)∧(zn11 C L M N' O o)∧(es++flat (zn2 t)=es'∧closedAll es'=true)∧((1=1∧[0]=[0]∧[(AV.str [120,45,97],I 1)]=[(AV.str [120,45,97],I p')])∧(closedA (I p')&&true)=true)∧True)∧N))) (zn1 Q es k)):=by kernel_rfl
abbrev zn3 (t:List UInt8):=[AV.agg [AV.str [120,45,98],I 0,I 4325387,I 7,I 0,AV.fsl false (toBytes t),AV.nilsl]]
abbrev zn16 (t:List UInt8):=(AV.fptr [AV.str [120,45,98],AV.str t] 0)
@[simp] abbrev zn23 (k k':Nat) (t:List UInt8):=(zn7∧(true=true∧some 20=some 20∧0=0∧k'=k+lenN (zn3 t)∧7=7)∧some 2=some 2∧True)
theorem au__b (t:List UInt8) (p' n i j:Int) (k k':Nat) (Cs O es es':List AV) (N:Prop) (o:Ob) (M N' L C:AV) (Q:AExit→St→Prop):wpK Tryz.prog opts0 40 (auA [120,45,98] t) (lpCode Tryz.prog 40 10) (auV n i k Cs (obF o M N' L C) es (.mapb 0 [] [])).st (roundP 0 [(0,0),(1,20),(2,2)] (auV n j k' Cs O es' (.mapb 1 [0] [(.str [120,45,98],I p')])) N [(0,1)] (auF k es) Q)=
  (mtB (ltInt i n) (indexAddrA Tryz.prog 29 (AV.fsl false Cs) (I i)=some (zn16 t)∧oblB (allSize 7 (zn3 t)&&(((k+lenN (zn3 t))*96).ble 140737488355328&&(allOne (flat (zn3 t))&&true))) (oblB ((lenN es).beq (k*7)) ((((zn6 Cs)∧(zn10 n)∧(I (wrapA IntKind.i64 (i+1))=I j∧closedA (I j)=true)∧True)∧(zn23 k k' t)∧(zn11 C L M N' O o)∧(es++flat (zn3 t)=es'∧closedAll es'=true)∧((1=1∧[0]=[0]∧[(AV.str [120,45,98],I 1)]=[(AV.str [120,45,98],I p')])∧(closedA (I p')&&true)=true)∧True)∧N))) (zn1 Q es k)):=by kernel_rfl
abbrev zn4 (p:Int) (t:List UInt8):=[AV.agg [AV.str [120,45,97],I p,I 4325387,I 7,I 0,AV.fsl false (toBytes t),AV.nilsl]]
@[simp] abbrev zn24 (k k':Nat) (p:Int) (t:List UInt8):=(zn7∧(true=true∧some 20=some 20∧0=0∧k'=k+lenN (zn4 p t)∧7=7)∧some 2=some 2∧True)
theorem au_a_a (t:List UInt8) (p p' n i j:Int) (k k':Nat) (Cs O es es':List AV) (N:Prop) (o:Ob) (M N' L C:AV) (Q:AExit→St→Prop):wpK Tryz.prog opts0 40 (auA [120,45,97] t) (lpCode Tryz.prog 40 10) (auV n i k Cs (obF o M N' L C) es (.mapb 1 [0] [(.str [120,45,97],I p)])).st (roundP 0 [(0,0),(1,20),(2,2)] (auV n j k' Cs O es' (.mapb 1 [0] [(.str [120,45,97],I p')])) N [(0,1)] (auF k es) Q)=
  (mtB (ltInt i n) (indexAddrA Tryz.prog 29 (AV.fsl false Cs) (I i)=some (zn15 t)∧oblB (allSize 7 (zn4 p t)&&(((k+lenN (zn4 p t))*96).ble 140737488355328&&(allOne (flat (zn4 p t))&&true))) (oblB ((lenN es).beq (k*7)) ((((zn6 Cs)∧(zn10 n)∧(I (wrapA IntKind.i64 (i+1))=I j∧closedA (I j)=true)∧True)∧(zn24 k k' p t)∧(zn11 C L M N' O o)∧(es++flat (zn4 p t)=es'∧closedAll es'=true)∧((1=1∧[0]=[0]∧[(AV.str [120,45,97],I (wrapA IntKind.i64 (p+1)))]=[(AV.str [120,45,97],I p')])∧(closedA (I p')&&true)=true)∧True)∧N))) (zn1 Q es k)):=by kernel_rfl
abbrev zn14 (p' q':Int):=(closedA (I p')&&(closedA (I q')&&true))
abbrev zn17 (p' q':Int):=(Blk.mapb 2 [0,1] [(AV.str [120,45,97],I p'),(AV.str [120,45,98],I q')])
abbrev zn20 (p' q':Int):=[(AV.str [120,45,97],I p'),(AV.str [120,45,98],I q')]
theorem au_a_b (t:List UInt8) (p p' q' n i j:Int) (k k':Nat) (Cs O es es':List AV) (N:Prop) (o:Ob) (M N' L C:AV) (Q:AExit→St→Prop):wpK Tryz.prog opts0 40 (auA [120,45,98] t) (lpCode Tryz.prog 40 10) (auV n i k Cs (obF o M N' L C) es (.mapb 1 [0] [(.str [120,45,97],I p)])).st (roundP 0 [(0,0),(1,20),(2,2)] (auV n j k' Cs O es' (zn17 p' q')) N [(0,1)] (auF k es) Q)=
  (mtB (ltInt i n) (indexAddrA Tryz.prog 29 (AV.fsl false Cs) (I i)=some (zn16 t)∧oblB (allSize 7 (zn3 t)&&(((k+lenN (zn3 t))*96).ble 140737488355328&&(allOne (flat (zn3 t))&&true))) (oblB ((lenN es).beq (k*7)) ((((zn6 Cs)∧(zn10 n)∧(I (wrapA IntKind.i64 (i+1))=I j∧closedA (I j)=true)∧True)∧(zn23 k k' t)∧(zn11 C L M N' O o)∧(es++flat (zn3 t)=es'∧closedAll es'=true)∧((2=2∧[0,1]=[0,1]∧[(AV.str [120,45,97],I p),(AV.str [120,45,98],I 1)]=(zn20 p' q'))∧(zn14 p' q')=true)∧True)∧N))) (zn1 Q es k)):=by kernel_rfl
abbrev zn18 (p' q':Int):=(Blk.mapb 2 [0,1] [(AV.str [120,45,98],I p'),(AV.str [120,45,97],I q')])
abbrev zn21 (p' q':Int):=[(AV.str [120,45,98],I p'),(AV.str [120,45,97],I q')]
theorem au_b_a (t:List UInt8) (p p' q' n i j:Int) (k k':Nat) (Cs O es es':List AV) (N:Prop) (o:Ob) (M N' L C:AV) (Q:AExit→St→Prop):wpK Tryz.prog opts0 40 (auA [120,45,97] t) (lpCode Tryz.prog 40 10) (auV n i k Cs (obF o M N' L C) es (.mapb 1 [0] [(.str [120,45,98],I p)])).st (roundP 0 [(0,0),(1,20),(2,2)] (auV n j k' Cs O es' (zn18 p' q')) N [(0,1)] (auF k es) Q)=
  (mtB (ltInt i n) (indexAddrA Tryz.prog 29 (AV.fsl false Cs) (I i)=some (zn15 t)∧oblB (allSize 7 (zn2 t)&&(((k+lenN (zn2 t))*96).ble 140737488355328&&(allOne (flat (zn2 t))&&true))) (oblB ((lenN es).beq (k*7)) ((((zn6 Cs)∧(zn10 n)∧(I (wrapA IntKind.i64 (i+1))=I j∧closedA (I j)=true)∧True)∧(zn22 k k' t)∧(zn11 C L M N' O o)∧(es++flat (zn2 t)=es'∧closedAll es'=true)∧((2=2∧[0,1]=[0,1]∧[(AV.str [120,45,98],I p),(AV.str [120,45,97],I 1)]=(zn21 p' q'))∧(zn14 p' q')=true)∧True)∧N))) (zn1 Q es k)):=by kernel_rfl
abbrev zn5 (p:Int) (t:List UInt8):=[AV.agg [AV.str [120,45,98],I p,I 4325387,I 7,I 0,AV.fsl false (toBytes t),AV.nilsl]]
@[simp] abbrev zn25 (k k':Nat) (p:Int) (t:List UInt8):=(zn7∧(true=true∧some 20=some 20∧0=0∧k'=k+lenN (zn5 p t)∧7=7)∧some 2=some 2∧True)
theorem au_b_b (t:List UInt8) (p p' n i j:Int) (k k':Nat) (Cs O es es':List AV) (N:Prop) (o:Ob) (M N' L C:AV) (Q:AExit→St→Prop):wpK Tryz.prog opts0 40 (auA [120,45,98] t) (lpCode Tryz.prog 40 10) (auV n i k Cs (obF o M N' L C) es (.mapb 1 [0] [(.str [120,45,98],I p)])).st (roundP 0 [(0,0),(1,20),(2,2)] (auV n j k' Cs O es' (.mapb 1 [0] [(.str [120,45,98],I p')])) N [(0,1)] (auF k es) Q)=
  (mtB (ltInt i n) (indexAddrA Tryz.prog 29 (AV.fsl false Cs) (I i)=some (zn16 t)∧oblB (allSize 7 (zn5 p t)&&(((k+lenN (zn5 p t))*96).ble 140737488355328&&(allOne (flat (zn5 p t))&&true))) (oblB ((lenN es).beq (k*7)) ((((zn6 Cs)∧(zn10 n)∧(I (wrapA IntKind.i64 (i+1))=I j∧closedA (I j)=true)∧True)∧(zn25 k k' p t)∧(zn11 C L M N' O o)∧(es++flat (zn5 p t)=es'∧closedAll es'=true)∧((1=1∧[0]=[0]∧[(AV.str [120,45,98],I (wrapA IntKind.i64 (p+1)))]=[(AV.str [120,45,98],I p')])∧(closedA (I p')&&true)=true)∧True)∧N))) (zn1 Q es k)):=by kernel_rfl
theorem au_ab_a (t:List UInt8) (p q p' q' n i j:Int) (k k':Nat) (Cs O es es':List AV) (N:Prop) (o:Ob) (M N' L C:AV) (Q:AExit→St→Prop):wpK Tryz.prog opts0 40 (auA [120,45,97] t) (lpCode Tryz.prog 40 10) (auV n i k Cs (obF o M N' L C) es (.mapb 2 [0,1] [(.str [120,45,97],I p),(.str [120,45,98],I q)])).st (roundP 0 [(0,0),(1,20),(2,2)] (auV n j k' Cs O es' (zn17 p' q')) N [(0,1)] (auF k es) Q)=
  (mtB (ltInt i n) (indexAddrA Tryz.prog 29 (AV.fsl false Cs) (I i)=some (zn15 t)∧oblB (allSize 7 (zn4 p t)&&(((k+lenN (zn4 p t))*96).ble 140737488355328&&(allOne (flat (zn4 p t))&&true))) (oblB ((lenN es).beq (k*7)) ((((zn6 Cs)∧(zn10 n)∧(I (wrapA IntKind.i64 (i+1))=I j∧closedA (I j)=true)∧True)∧(zn24 k k' p t)∧(zn11 C L M N' O o)∧(es++flat (zn4 p t)=es'∧closedAll es'=true)∧((2=2∧[0,1]=[0,1]∧[(AV.str [120,45,97],I (wrapA IntKind.i64 (p+1))),(AV.str [120,45,98],I q)]=(zn20 p' q'))∧(zn14 p' q')=true)∧True)∧N))) (zn1 Q es k)):=by kernel_rfl
abbrev zn8 (q:Int) (t:List UInt8):=[AV.agg [AV.str [120,45,98],I q,I 4325387,I 7,I 0,AV.fsl false (toBytes t),AV.nilsl]]
theorem au_ab_b (t:List UInt8) (p q p' q' n i j:Int) (k k':Nat) (Cs O es es':List AV) (N:Prop) (o:Ob) (M N' L C:AV) (Q:AExit→St→Prop):wpK Tryz.prog opts0 40 (auA [120,45,98] t) (lpCode Tryz.prog 40 10) (auV n i k Cs (obF o M N' L C) es (.mapb 2 [0,1] [(.str [120,45,97],I p),(.str [120,45,98],I q)])).st (roundP 0 [(0,0),(1,20),(2,2)] (auV n j k' Cs O es' (zn17 p' q')) N [(0,1)] (auF k es) Q)=
  (mtB (ltInt i n) (indexAddrA Tryz.prog 29 (AV.fsl false Cs) (I i)=some (zn16 t)∧oblB (allSize 7 (zn8 q t)&&(((k+lenN (zn8 q t))*96).ble 140737488355328&&(allOne (flat (zn8 q t))&&true))) (oblB ((lenN es).beq (k*7)) ((((zn6 Cs)∧(zn10 n)∧(I (wrapA IntKind.i64 (i+1))=I j∧closedA (I j)=true)∧True)∧(zn7∧(true=true∧some 20=some 20∧0=0∧k'=k+lenN (zn8 q t)∧7=7)∧some 2=some 2∧True)∧(zn11 C L M N' O o)∧(es++flat (zn8 q t)=es'∧closedAll es'=true)∧((2=2∧[0,1]=[0,1]∧[(AV.str [120,45,97],I p),(AV.str [120,45,98],I (wrapA IntKind.i64 (q+1)))]=(zn20 p' q'))∧(zn14 p' q')=true)∧True)∧N))) (zn1 Q es k)):=by kernel_rfl
abbrev zn9 (q:Int) (t:List UInt8):=[AV.agg [AV.str [120,45,97],I q,I 4325387,I 7,I 0,AV.fsl false (toBytes t),AV.nilsl]]
theorem au_ba_a (t:List UInt8) (p q p' q' n i j:Int) (k k':Nat) (Cs O es es':List AV) (N:Prop) (o:Ob) (M N' L C:AV) (Q:AExit→St→Prop):wpK Tryz.prog opts0 40 (auA [120,45,97] t) (lpCode Tryz.prog 40 10) (auV n i k Cs (obF o M N' L C) es (.mapb 2 [0,1] [(.str [120,45,98],I p),(.str [120,45,97],I q)])).st (roundP 0 [(0,0),(1,20),(2,2)] (auV n j k' Cs O es' (zn18 p' q')) N [(0,1)] (auF k es) Q)=
  (mtB (ltInt i n) (indexAddrA Tryz.prog 29 (AV.fsl false Cs) (I i)=some (zn15 t)∧oblB (allSize 7 (zn9 q t)&&(((k+lenN (zn9 q t))*96).ble 140737488355328&&(allOne (flat (zn9 q t))&&true))) (oblB ((lenN es).beq (k*7)) ((((zn6 Cs)∧(zn10 n)∧(I (wrapA IntKind.i64 (i+1))=I j∧closedA (I j)=true)∧True)∧(zn7∧(true=true∧some 20=some 20∧0=0∧k'=k+lenN (zn9 q t)∧7=7)∧some 2=some 2∧True)∧(zn11 C L M N' O o)∧(es++flat (zn9 q t)=es'∧closedAll es'=true)∧((2=2∧[0,1]=[0,1]∧[(AV.str [120,45,98],I p),(AV.str [120,45,97],I (wrapA IntKind.i64 (q+1)))]=(zn21 p' q'))∧(zn14 p' q')=true)∧True)∧N))) (zn1 Q es k)):=by kernel_rfl
theorem au_ba_b (t:List UInt8) (p q p' q' n i j:Int) (k k':Nat) (Cs O es es':List AV) (N:Prop) (o:Ob) (M N' L C:AV) (Q:AExit→St→Prop):wpK Tryz.prog opts0 40 (auA [120,45,98] t) (lpCode Tryz.prog 40 10) (auV n i k Cs (obF o M N' L C) es (.mapb 2 [0,1] [(.str [120,45,98],I p),(.str [120,45,97],I q)])).st (roundP 0 [(0,0),(1,20),(2,2)] (auV n j k' Cs O es' (zn18 p' q')) N [(0,1)] (auF k es) Q)=
  (mtB (ltInt i n) (indexAddrA Tryz.prog 29 (AV.fsl false Cs) (I i)=some (zn16 t)∧oblB (allSize 7 (zn5 p t)&&(((k+lenN (zn5 p t))*96).ble 140737488355328&&(allOne (flat (zn5 p t))&&true))) (oblB ((lenN es).beq (k*7)) ((((zn6 Cs)∧(zn10 n)∧(I (wrapA IntKind.i64 (i+1))=I j∧closedA (I j)=true)∧True)∧(zn25 k k' p t)∧(zn11 C L M N' O o)∧(es++flat (zn5 p t)=es'∧closedAll es'=true)∧((2=2∧[0,1]=[0,1]∧[(AV.str [120,45,98],I (wrapA IntKind.i64 (p+1))),(AV.str [120,45,97],I q)]=(zn21 p' q'))∧(zn14 p' q')=true)∧True)∧N))) (zn1 Q es k)):=by kernel_rfl
def alLp (T O:List AV) (k:Nat) (es:List AV):LoopS:=fun st Q=>seesK 0 [(0,0)] (alV0 T O) st∧Q (.exit 0) (alV1 20 k T O es).st
def auL (n:Int) (k k':Nat) (C O es es':List AV):LoopS:=fun st Q=>seesK 0 [(0,0),(1,1),(2,2)] (auV n 0 k C O es (.mapb 0 [] [])) st∧Q (.exit 2) (auF k' es').st
theorem all_fn (T C es es':List AV) (k k':Nat) (o:Ob) (M N L:AV) (Q:AV→Heap→Prop):fnK Tryz.prog opts0 40 (aidJ [] [(4,alLp T (obF o M N L (.fsl false C)) k es),(10,auL (.ofNat (lenN C)) k k' C (obF o M N L (.fsl false C)) es es')] (manyS [(91,.fsl true T)]) [] []) 40 [.agg (obF o M N L (.fsl false C))] [] 0 (fun v H _=>Q v H)=
  (SC 91 [] (AV.fsl true T)∧(((AV.nilsl=AV.nilsl∧true=true)∧(zn13 T)∧(I (Int.ofNat (lenN T))=I 20∧true=true)∧(I 0=I 0∧true=true)∧True)∧(zn7∧True)∧((obF o M N L (AV.fsl false C))=(obF o M N L (AV.fsl false C))∧closedAll (obF o M N L (AV.fsl false C))=true)∧True)∧(((AV.fsl false C=AV.fsl false C∧closedA (AV.fsl false C)=true)∧(I (Int.ofNat (lenN C))=I (Int.ofNat (lenN C))∧closedA (I (Int.ofNat (lenN C)))=true)∧(I 0=I 0∧true=true)∧True)∧(zn7∧(zn19 k)∧some 2=some 2∧True)∧((obF o M N L (AV.fsl false C))=(obF o M N L (AV.fsl false C))∧closedAll (obF o M N L (AV.fsl false C))=true)∧(es=es∧closedAll es=true)∧((0=0∧([]:List Nat)=[]∧([]:List (AV × AV))=[])∧true=true)∧True)∧Q (AV.rsl true 0 0 k' 7) [(0,some (Blk.cells es'))]):=by kernel_rfl
end
end Go.Proofs.YtjhggnebkfpgcaaGreatDoor
