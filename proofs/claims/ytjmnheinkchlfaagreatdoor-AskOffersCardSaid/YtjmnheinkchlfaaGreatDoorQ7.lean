import Derived.Test.YtjmnheinkchlfaaGreatDoorQ4
import Derived.KernelRfl
namespace Go.Proofs.YtjmnheinkchlfaaGreatDoor
set_option maxRecDepth 20000
open Go Go.RowKit
open Go.Proofs.Abs
theorem iz {f:FuncId} {args:List AV} {v:AV} (hcl:ae args=true) (h:th Tryz.prog opts0 40 f args=some v) (hv:ad v=true):SC f args v:=
 CM (O:=opts0) Tryz.mixed (fun _ _ _ h=>by cases h) xg mC hcl h hv
theorem zq:∀W:List (Int × Int),W.length≤6→∃n:Int,n≤8192∧SC 37 [ao (.mk 4325500 1 0 [] (W.map vP))] (I n):=fun W h=>by
 rcases W with _|⟨⟨a1,b1⟩,_|⟨⟨a2,b2⟩,_|⟨⟨a3,b3⟩,_|⟨⟨a4,b4⟩,_|⟨⟨a5,b5⟩,_|⟨⟨a6,b6⟩,_|⟨x,W⟩⟩⟩⟩⟩⟩⟩
 ·exact ⟨8,by decide,iz rfl (by kernel_rfl) rfl⟩
 ·exact ⟨48,by decide,iz rfl (by kernel_rfl) rfl⟩
 ·exact ⟨88,by decide,iz rfl (by kernel_rfl) rfl⟩
 ·exact ⟨128,by decide,iz rfl (by kernel_rfl) rfl⟩
 ·exact ⟨168,by decide,iz rfl (by kernel_rfl) rfl⟩
 ·exact ⟨208,by decide,iz rfl (by kernel_rfl) rfl⟩
 ·exact ⟨248,by decide,iz rfl (by kernel_rfl) rfl⟩
 ·simp at h
def Gy (b1 b2 b3:Bool):Int:=8+((match b1 with|true=>384|false=>0)+((match b2 with|true=>64|false=>0)+(match b3 with|true=>24|false=>0)))
theorem Gz:∀b1 b2 b3:Bool,∃n:Int,n≤8192∧SC 37 [ao (.mk 4325500 1 0 [] (ii b1 b2 b3))] (I n):=fun b1 b2 b3=>by
 refine ⟨Gy b1 b2 b3,by cases b1<;>cases b2<;>cases b3<;>decide,iz ?_ ?_ rfl⟩
 ·cases b1<;>cases b2<;>cases b3<;>kernel_rfl
 ·cases b1<;>cases b2<;>cases b3<;>kernel_rfl
def qA (n:Int):AV:=ep 4325492 5 n
def vA (p:Int × Int):AV:= .agg [I 4325481,I 1,I 0,.nilsl,.fsl true [ep 4325482 2 p.1,ep 4325483 2 p.2]]
theorem zr:∀N:List Int,WkE (N.map qA) (ab (N.map qI))
 |[]=> .nil
 |n::t=>by
  simp only[List.map_cons,ab,qA,ep,qI,ao,aj]
  refine .consA ?_ (zr t)
  (repeat (first|exact Wk.refl _|exact WkL.refl _|exact Wk.nil|exact Wk.row|exact WkE.refl _|exact WkL.nil|exact WkE.nil|apply Wk.agg|apply Wk.tuple|apply WkL.cons|apply Wk.rows|apply WkE.consA))
theorem zs:∀V:List (Int × Int),WkE (V.map vA) (ab (V.map vP))
 |[]=> .nil
 |p::t=>by
  simp only[List.map_cons,ab,vA,ep,vP,vI,ao,aj]
  refine .consA ?_ (zs t)
  (repeat (first|exact Wk.refl _|exact WkL.refl _|exact Wk.nil|exact Wk.row|exact WkE.refl _|exact WkL.nil|exact WkE.nil|apply Wk.agg|apply Wk.tuple|apply WkL.cons|apply Wk.rows|apply WkE.consA))
theorem qn:∀N:List Int,ae (N.map qA)=true
 |[]=>rfl
 |_::t=>by simp only[List.map_cons,ae,qn t,qA,ep,ad,Bool.and_self]
theorem qo:∀V:List (Int × Int),ae (V.map vA)=true
 |[]=>rfl
 |_::t=>by simp only[List.map_cons,ae,qo t,vA,ep,ad,Bool.and_self]
theorem ug (n:Int):cM 5 (qA n):=⟨rfl,rfl⟩
theorem uh (p:Int × Int):cM 5 (vA p):=⟨rfl,rfl⟩
theorem lq {α:Type} {f:α→AV} (h:∀a,cM 5 (f a)) (l:List α):∀e∈l.map f,cM 5 e:=fun e he=>by
 obtain ⟨a,_,rfl⟩:=List.mem_map.1 he
 exact h a
theorem qp {l:List AV} (h:∀e∈l,cM 5 e):ac (flat l)=l.length*5:=by
 induction l with
 |nil=>rfl
 |cons a t ih=>
  have h1:=(h a (by simp)).1
  have h2:=ih fun e he=>h e (List.mem_cons_of_mem _ he)
  rw[ap] at h2⊢
  show (a.cells++flat t).length=_
  rw[List.length_append,h2,h1,List.length_cons]
  omega
theorem lr {α:Type} {f:α→AV} (h:∀a,ae (f a).cells=true) (l:List α):∀e∈l.map f,ae e.cells=true:=fun e he=>by
 obtain ⟨a,_,rfl⟩:=List.mem_map.1 he
 exact h a
theorem ui (n:Int):ae (qA n).cells=true:=rfl
theorem uj (p:Int × Int):ae (vA p).cells=true:=rfl
noncomputable def lv (Rs Os:List AV) (w:Bool) (op:Int) (i:Nat):List AV→View
 |[]=>bt Rs Os w op i
 |x::r=>bB Rs Os w op i (r.length+1) (flat (x::r))
theorem lw {lk:List (Nat × Nat)} {a b:AV} (h:RenV lk a b):bx lk (ir a) (ir b):=⟨by simp only[ir,RenL];exact ⟨.same _ rfl,.same _ rfl,.same _ rfl,.same _ rfl,h,trivial⟩⟩
theorem zt {l:List Rw} {i:Nat} {r:Rw} (hx:l[i]? =some r):aJ Tryz.prog 22 (.fsl false (l.map ak)) (I (.ofNat i))=some (.fptr (jo r) 0):=pn hx
theorem zu {l od:List Rw} {w:Bool} {op:Int} {L:List AV} {Q:AExit→St→Prop} (hE:ae (flat L)=true) (hL:L.length=min l.length 6) (hq:Q (.exit 0) (lv (l.map ak) (od.map ak) w op (min l.length 6) L).st):ALp Tryz.prog opts0.glob 0 (aq Tryz.prog 3 10) (lv (l.map ak) (od.map ak) w op (min l.length 6) L).st Q:=by
 have hR:=dA l
 have hO:=dA od
 have hlen:ac (l.map ak)=l.length:=by rw[ap,List.length_map]
 cases L with
 |nil=>
  have h0:l.length=0:=by simp only[List.length_nil] at hL;omega
  refine ALp.round (A:=qh) (V2:=bt (l.map ak) (od.map ak) w op (min l.length 6)) (F:=bt (l.map ak) (od.map ak) w op (min l.length 6)) (lk:=[]) (lk':=[(0,0),(1,1),(2,2)]) base0 au (LsOk.no rfl) .refl ?_
  show al Tryz.prog opts0 40 _ _ (bt (l.map ak) (od.map ak) w op (min l.length 6)).st _
  rw[F7]
  exact ⟨eI (by rw[hlen];simp only[Int.ofNat_eq_natCast];omega),⟨⟨⟨rfl,hR⟩,⟨rfl,hO⟩,⟨rfl,rfl⟩,⟨rfl,rfl⟩,⟨rfl,rfl⟩,trivial⟩,⟨⟨rfl,rfl⟩,⟨rfl,rfl⟩,⟨rfl,rfl⟩,trivial⟩,⟨rfl,rfl⟩,⟨rfl,rfl⟩,trivial⟩,hq⟩
 | cons x r=>
  by_cases h6:l.length≤6
  ·refine ALp.round (A:=qh) (V2:=bt (l.map ak) (od.map ak) w op (min l.length 6)) (F:=bB (l.map ak) (od.map ak) w op (min l.length 6) (r.length+1) (flat (x::r))) (lk:=[]) (lk':=[(0,0),(1,1),(2,2),(3,3)]) base0 au (LsOk.no rfl) .refl ?_
   show al Tryz.prog opts0 40 _ _ (bB (l.map ak) (od.map ak) w op (min l.length 6) (r.length+1) (flat (x::r))).st _
   rw[F8]
   exact ⟨eI (by rw[hlen];simp only[Int.ofNat_eq_natCast];omega),⟨⟨⟨rfl,hR⟩,⟨rfl,hO⟩,⟨rfl,rfl⟩,⟨rfl,rfl⟩,⟨rfl,rfl⟩,trivial⟩,⟨⟨rfl,rfl⟩,⟨rfl,rfl⟩,⟨rfl,rfl⟩,trivial⟩,⟨rfl,rfl⟩,lw (.rsl _ _ _ _ _ _ rfl),⟨rfl,hE⟩,trivial⟩,hq⟩
  ·refine ALp.round (A:=zj) (V2:=bt (l.map ak) (od.map ak) w op (min l.length 6)) (F:=bB (l.map ak) (od.map ak) w op (min l.length 6) (r.length+1) (flat (x::r))) (lk:=[]) (lk':=[(0,0),(1,1),(2,2),(3,3)]) base0 au (LsOk.no rfl) .refl ?_
   show al Tryz.prog opts0 40 _ _ (bB (l.map ak) (od.map ak) w op (min l.length 6) (r.length+1) (flat (x::r))).st _
   rw[F9]
   exact ⟨fh (by rw[hlen];simp only[Int.ofNat_eq_natCast];omega),eI (by simp only[Int.ofNat_eq_natCast];omega),⟨⟨⟨rfl,hR⟩,⟨rfl,hO⟩,⟨rfl,rfl⟩,⟨rfl,rfl⟩,⟨rfl,rfl⟩,trivial⟩,⟨⟨rfl,rfl⟩,⟨rfl,rfl⟩,⟨rfl,rfl⟩,trivial⟩,⟨rfl,rfl⟩,lw (.rsl _ _ _ _ _ _ rfl),⟨rfl,hE⟩,trivial⟩,hq⟩
theorem GA {p:Int} (h0:0≤p) (h1:p<13):∃n:Int,af .i64 (1+af .i64 (p.tdiv 4))=n∧(n=1∨n=2∨n=3∨n=4):=by
 have:p=0∨p=1∨p=2∨p=3∨p=4∨p=5∨p=6∨p=7∨p=8∨p=9∨p=10∨p=11∨p=12:=by omega
 rcases this with rfl|rfl|rfl|rfl|rfl|rfl|rfl|rfl|rfl|rfl|rfl|rfl|rfl<;>exact ⟨_,rfl,by decide⟩
theorem GB {l od:List Rw}:∀ (m i:Nat) (N:List (Int)),i+m=min l.length 6→N.length=i→(∀n∈N,n=1∨n=2∨n=3∨n=4)→∃N':List (Int),N'.length=min l.length 6∧(∀n∈N',n=1∨n=2∨n=3∨n=4)∧∀Q:AExit→St→Prop,Q (.exit 0) (lv (l.map ak) (od.map ak) false 24 (min l.length 6) (N'.map qA)).st→ALp Tryz.prog opts0.glob 0 (aq Tryz.prog 3 10) (lv (l.map ak) (od.map ak) false 24 i (N.map qA)).st Q:=by
 have hR:=dA l
 have hO:=dA od
 have hlen:ac (l.map ak)=l.length:=by rw[ap,List.length_map]
 intro m
 induction m with
 |zero=>
  intro i N hi hN hn
  rw[Nat.add_zero] at hi
  subst hi
  exact ⟨N,hN,hn,fun Q hq=>zu (gx (qn N) (lr ui N)) (by rw[List.length_map];exact hN) hq⟩
 | succ m ih=>
  intro i N hi hN hn
  have hlt:i<l.length:=by omega
  have h6:i<6:=by omega
  have g:=List.getElem?_eq_getElem hlt
  revert g
  generalize l[i]=y
  intro g
  have hi0:=zt g
  have hw:af .i64 (Int.ofNat i+1)=Int.ofNat (i+1):=eK (by omega)
  have ht1:an Tryz.prog .lss 3 (.tmp 34) (.tmp 36) (I (.ofNat i)) (I (.ofNat (ac (l.map ak))))=some (.bool true):=fh (by rw[hlen];simp only[Int.ofNat_eq_natCast];omega)
  have ht2:an Tryz.prog .lss 3 (.tmp 39) (.const (Value.int IntKind.i64 6)) (I (.ofNat i)) (I 6)=some (.bool true):=fh (by simp only[Int.ofNat_eq_natCast];omega)
  have hp:=fI y.a (m:=13) (by decide) (by decide)
  obtain ⟨n,hn1,hn2⟩:=GA (Int.emod_nonneg y.a (by decide:(13:Int)≠0)) (Int.emod_lt_of_pos y.a (by decide:(0:Int)<13))
  obtain ⟨N',k1,k2,k3⟩:=ih (i+1) (N++[n]) (by omega) (by rw[List.length_append,hN];rfl) (fun x hx=>by
   rcases List.mem_append.1 hx with hx|hx
   ·exact hn x hx
   ·rw[List.mem_singleton] at hx;subst hx;exact hn2)
  refine ⟨N',k1,k2,fun Q hq=> ?_⟩
  have hx:=k3 Q hq
  have hG:=lq ug (N++[n])
  have hE:=gx (qn (N++[n])) (lr ui (N++[n]))
  rw[List.map_append] at hx hE hG
  have hG0:=lq ug N
  have hNl:(N.map qA).length=i:=by rw[List.length_map];exact hN
  revert hx hE hG hG0 hNl
  generalize N.map qA=L
  intro hx hG hE hG0 hNl
  cases L with
  |nil=>
   refine ALp.round (A:=qf y (y.a%13)) (V2:=bB (l.map ak) (od.map ak) false 24 (i+1) 1 (flat [qA n])) (F:=bt (l.map ak) (od.map ak) false 24 i) (lk:=[(0,0),(1,1),(2,2),(3,26)]) (lk':=[]) base0 au (LsOk.no rfl) .refl ?_
   show al Tryz.prog opts0 40 _ _ (bt (l.map ak) (od.map ak) false 24 i).st _
   rw[FZ,hw,hn1]
   exact ⟨ht1,ht2,hi0,hp,⟨⟨⟨rfl,hR⟩,⟨rfl,hO⟩,⟨rfl,rfl⟩,⟨rfl,rfl⟩,⟨rfl,rfl⟩,trivial⟩,⟨⟨rfl,rfl⟩,⟨rfl,rfl⟩,⟨rfl,rfl⟩,trivial⟩,⟨rfl,rfl⟩,lw (.rsl _ _ _ _ _ _ rfl),⟨rfl,hE⟩,trivial⟩,hx⟩
  |cons x r=>
   have h3:Nat.ble ((r.length+1+ac [qA n])*72) 140737488355328=true:=Nat.ble_eq_true_of_le (by rw[show ac [qA n]=1 from rfl];simp only[List.length_cons] at hNl;omega)
   have hk:(r++[qA n]).length+1=r.length+1+ac [qA n]:=by rw[List.length_append];rfl
   have hl5:=qp hG0
   have hfl:flat (x::r)++flat [qA n]=flat (x::r++[qA n]):=(gi _ _).symm
   refine ALp.round (A:=qf y (y.a%13)) (V2:=bB (l.map ak) (od.map ak) false 24 (i+1) ((r++[qA n]).length+1) (flat (x::r++[qA n]))) (F:=bt (l.map ak) (od.map ak) false 24 i) (lk:=[(0,0),(1,1),(2,2),(3,26)]) (lk':=[]) base0 au (LsOk.no rfl) .refl ?_
   show al Tryz.prog opts0 40 _ _ (bB (l.map ak) (od.map ak) false 24 i (r.length+1) (flat (x::r))).st _
   rw[F4,hw,hn1]
   exact ⟨ht1,ht2,hi0,hp,bD (ig rfl h3 rfl) (bD (by rw[beq_iff,hl5];rfl) ⟨⟨⟨⟨rfl,hR⟩,⟨rfl,hO⟩,⟨rfl,rfl⟩,⟨rfl,rfl⟩,⟨rfl,rfl⟩,trivial⟩,⟨⟨rfl,rfl⟩,⟨rfl,rfl⟩,⟨rfl,rfl⟩,trivial⟩,⟨rfl,rfl⟩,lw (by rw[hk];exact .rsl _ _ _ _ _ _ rfl),⟨hfl,hE⟩,trivial⟩,hx⟩)⟩
theorem GC {l od:List Rw}:∀ (m i:Nat) (N:List (Int × Int)),i+m=min l.length 6→N.length=i→∃N':List (Int × Int),N'.length=min l.length 6∧∀Q:AExit→St→Prop,Q (.exit 0) (lv (l.map ak) (od.map ak) true 30 (min l.length 6) (N'.map vA)).st→ALp Tryz.prog opts0.glob 0 (aq Tryz.prog 3 10) (lv (l.map ak) (od.map ak) true 30 i (N.map vA)).st Q:=by
 have hR:=dA l
 have hO:=dA od
 have hlen:ac (l.map ak)=l.length:=by rw[ap,List.length_map]
 intro m
 induction m with
 |zero=>
  intro i N hi hN
  rw[Nat.add_zero] at hi
  subst hi
  exact ⟨N,hN,fun Q hq=>zu (gx (qo N) (lr uj N)) (by rw[List.length_map];exact hN) hq⟩
 | succ m ih=>
  intro i N hi hN
  have hlt:i<l.length:=by omega
  have h6:i<6:=by omega
  have g:=List.getElem?_eq_getElem hlt
  revert g
  generalize l[i]=y
  intro g
  have hi0:=zt g
  have hw:af .i64 (Int.ofNat i+1)=Int.ofNat (i+1):=eK (by omega)
  have ht1:an Tryz.prog .lss 3 (.tmp 34) (.tmp 36) (I (.ofNat i)) (I (.ofNat (ac (l.map ak))))=some (.bool true):=fh (by rw[hlen];simp only[Int.ofNat_eq_natCast];omega)
  have ht2:an Tryz.prog .lss 3 (.tmp 39) (.const (Value.int IntKind.i64 6)) (I (.ofNat i)) (I 6)=some (.bool true):=fh (by simp only[Int.ofNat_eq_natCast];omega)
  have hp:=fI y.a (m:=3) (by decide) (by decide)
  have hp':=fI y.b (m:=8) (by decide) (by decide)
  obtain ⟨N',k1,k3⟩:=ih (i+1) (N++[(y.a%3,af .i64 (y.b%8-1))]) (by omega) (by rw[List.length_append,hN];rfl)
  refine ⟨N',k1,fun Q hq=> ?_⟩
  have hx:=k3 Q hq
  have hG:=lq uh (N++[(y.a%3,af .i64 (y.b%8-1))])
  have hE:=gx (qo (N++[(y.a%3,af .i64 (y.b%8-1))])) (lr uj (N++[(y.a%3,af .i64 (y.b%8-1))]))
  rw[List.map_append] at hx hE hG
  have hG0:=lq uh N
  have hNl:(N.map vA).length=i:=by rw[List.length_map];exact hN
  revert hx hE hG hG0 hNl
  generalize N.map vA=L
  intro hx hG hE hG0 hNl
  cases L with
  |nil=>
   refine ALp.round (A:=qg y (y.a%3) (y.b%8)) (V2:=bB (l.map ak) (od.map ak) true 30 (i+1) 1 (flat [vA (y.a%3,af .i64 (y.b%8-1))])) (F:=bt (l.map ak) (od.map ak) true 30 i) (lk:=[(0,0),(1,1),(2,2),(3,34)]) (lk':=[]) base0 au (LsOk.no rfl) .refl ?_
   show al Tryz.prog opts0 40 _ _ (bt (l.map ak) (od.map ak) true 30 i).st _
   rw[F5,hw]
   exact ⟨ht1,ht2,hi0,hp,hi0,hp',⟨⟨⟨rfl,hR⟩,⟨rfl,hO⟩,⟨rfl,rfl⟩,⟨rfl,rfl⟩,⟨rfl,rfl⟩,trivial⟩,⟨⟨rfl,rfl⟩,⟨rfl,rfl⟩,⟨rfl,rfl⟩,trivial⟩,⟨rfl,rfl⟩,lw (.rsl _ _ _ _ _ _ rfl),⟨rfl,hE⟩,trivial⟩,hx⟩
  |cons x r=>
   have h3:Nat.ble ((r.length+1+ac [vA (y.a%3,af .i64 (y.b%8-1))])*72) 140737488355328=true:=Nat.ble_eq_true_of_le (by rw[show ac [vA (y.a%3,af .i64 (y.b%8-1))]=1 from rfl];simp only[List.length_cons] at hNl;omega)
   have hk:(r++[vA (y.a%3,af .i64 (y.b%8-1))]).length+1=r.length+1+ac [vA (y.a%3,af .i64 (y.b%8-1))]:=by rw[List.length_append];rfl
   have hl5:=qp hG0
   have hfl:flat (x::r)++flat [vA (y.a%3,af .i64 (y.b%8-1))]=flat (x::r++[vA (y.a%3,af .i64 (y.b%8-1))]):=(gi _ _).symm
   refine ALp.round (A:=qg y (y.a%3) (y.b%8)) (V2:=bB (l.map ak) (od.map ak) true 30 (i+1) ((r++[vA (y.a%3,af .i64 (y.b%8-1))]).length+1) (flat (x::r++[vA (y.a%3,af .i64 (y.b%8-1))]))) (F:=bt (l.map ak) (od.map ak) true 30 i) (lk:=[(0,0),(1,1),(2,2),(3,34)]) (lk':=[]) base0 au (LsOk.no rfl) .refl ?_
   show al Tryz.prog opts0 40 _ _ (bB (l.map ak) (od.map ak) true 30 i (r.length+1) (flat (x::r))).st _
   rw[F6,hw]
   exact ⟨ht1,ht2,hi0,hp,hi0,hp',bD (ig rfl h3 rfl) (bD (by rw[beq_iff,hl5];rfl) ⟨⟨⟨⟨rfl,hR⟩,⟨rfl,hO⟩,⟨rfl,rfl⟩,⟨rfl,rfl⟩,⟨rfl,rfl⟩,trivial⟩,⟨⟨rfl,rfl⟩,⟨rfl,rfl⟩,⟨rfl,rfl⟩,trivial⟩,⟨rfl,rfl⟩,lw (by rw[hk];exact .rsl _ _ _ _ _ _ rfl),⟨hfl,hE⟩,trivial⟩,hx⟩)⟩
def dD (ks:List It):It:= .mk 4325497 1 0 [] ks
structure qq (f g:FuncId) (ks:List It) (x:It) (r n:Int):Prop where
 p:∃N,BodySem Tryz.prog opts0.glob f [.ptr 0 0,ao (dD ks),eA] [] 1 (df x r) [] N
 q:∃N,BodySem Tryz.prog opts0.glob g [.ptr 0 0,ao (dD ks),eA] [] 1 (df x r) [] N
 k:aX aD x
 z:r=0→n≤8192∧SC 37 [ao x] (I n)
theorem uk {tag ty:Int} {m:List It}:∀ {l:List It},bE tag ty l=0→bE tag ty (l++m)=bE tag ty m
 |[],_=>rfl
 | x::t,h=>by
  unfold bE at h
  show (match ag tag (dQ x) with|false=>(4:Int)|true=>match ag (fl x) ty with|false=>7|true=>bE tag ty (t++m))=_
  cases h1:ag tag (dQ x) with
  |false=>rw[h1] at h;cases h
  | true=>
   rw[h1] at h
   cases h2:ag (fl x) ty with
   |false=>rw[h2] at h;cases h
   |true=>
    rw[h2] at h
    exact uk h
theorem qr:∀N:List Int,bE 4325492 5 (N.map qI)=0
 |[]=>rfl
 |_::t=>qr t
theorem qs:∀V:List (Int × Int),bE 4325481 1 (V.map vP)=0
 |[]=>rfl
 |_::t=>qs t
theorem zw (n:Int):aX aD (qI n):=⟨by simp[aD],by simp[aD],trivial⟩
theorem qt {ks:List It} (hl:ks.length≤10) (h:∀x∈ks,aX aD x):aX aD (dD ks):=⟨by simp[aD],by simp only[aD];omega,okIs_iff.2 h⟩
theorem zx {x:It} (h:kG x):bE 4325492 5 [x]=4∧bE 4325481 1 [x]=4:=by
 have h1:ag 4325492 (dQ x)=false∧ag 4325481 (dQ x)=false:=by
  obtain ⟨t,y,n,d,ks⟩:=x
  obtain ⟨k,hk,rfl⟩:=h
  have h1:k≠4325492:=by
   rintro rfl
   rcases hk with hk|hk
   ·cases hk
   ·exact absurd hk (by decide)
  have h2:k≠4325481:=by
   rintro rfl
   rcases hk with hk|hk
   ·cases hk
   ·exact absurd hk (by decide)
  exact ⟨beqInt_false.2 (by simp only[dQ,Int.ofNat_eq_natCast];omega),beqInt_false.2 (by simp only[dQ,Int.ofNat_eq_natCast];omega)⟩
 obtain ⟨h1,h2⟩:=h1
 constructor
 ·show (match ag 4325492 (dQ x) with|false=>(4:Int)|true=>_)=4
  rw[h1]
 ·show (match ag 4325481 (dQ x) with|false=>(4:Int)|true=>_)=4
  rw[h2]
theorem ul:aX aD zI:=⟨by simp[aD],by simp[aD],trivial⟩
theorem GD (b1 b2 b3:Bool):aX aD (.mk 4325500 1 0 [] (ii b1 b2 b3)):=by
 cases b1<;>cases b2<;>cases b3<;>simp[aX,fF,ii,pM,opL,aD,tW]
theorem GE {N:List Int} (hN:∀n∈N,n=1∨n=2∨n=3∨n=4) (hl:N.length≤6):∃ (x:It) (r n:Int),qq 34 94 (N.map qI) x r n:=by
 have hok:aX aD (dD (N.map qI)):=qt (by rw[List.length_map];omega) fun x hx=>by
  obtain ⟨n,_,rfl⟩:=List.mem_map.1 hx
  exact zw n
 have h1:=Fb (x:=dD (N.map qI)) hok rfl (qr N) (by omega)
 have h2:=Fo (x:=dD (N.map qI)) hN rfl (qr N) (by omega)
 unfold nv at h1 h2
 cases hb:N.any cm with
 |true=>
  rw[hb] at h1 h2
  exact ⟨zI,7,0,⟨_,h1⟩,⟨_,h2⟩,ul,fun h=>by cases h⟩
 |false=>
  rw[hb] at h1 h2
  obtain ⟨n,k1,k2⟩:=Gz (bf 1 N) (bf 2 N) (bf 3 N)
  exact ⟨_,0,n,⟨_,h1⟩,⟨_,h2⟩,GD _ _ _,fun _=>⟨k1,k2⟩⟩
theorem GF {V:List (Int × Int)} (hl:V.length≤6):∃ (x:It) (r n:Int),qq 35 95 (V.map vP) x r n:=by
 have hok:aX aD (dD (V.map vP)):=qt (by rw[List.length_map];omega) fun x hx=>by
  obtain ⟨n,_,rfl⟩:=List.mem_map.1 hx
  exact p9 _ _
 have h1:=FT (x:=dD (V.map vP)) hok rfl (qs V) (by omega)
 have h2:=FW (x:=dD (V.map vP)) rfl (qs V) (by omega)
 have hs:∃n:Int,n≤8192∧SC 37 [ao (.mk 4325500 1 0 [] (jy V))] (I n):=by
  cases V with
  |nil=>exact zq [(1,4),(1,3),(1,2),(1,1),(1,0)] (by decide)
  |cons p V=>exact zq ((p::V).filter k7) (Nat.le_trans (List.length_filter_le ..) hl)
 obtain ⟨n,k1,k2⟩:=hs
 refine ⟨_,0,n,⟨_,h1⟩,⟨_,h2⟩, ?_,fun _=>⟨k1,k2⟩⟩
 have hsp:(jy V).length≤6∧∀x∈jy V,aX aD x:=by
  cases V with
  | nil=>exact ⟨by decide,fun x hx=>by
    obtain ⟨b,_,rfl⟩:=List.mem_map.1 hx
    exact p9 _ _⟩
  |cons p V=>exact ⟨Nat.le_trans (qa (p::V)) hl,zb⟩
 exact ⟨by simp[aD],by have:=hsp.1;simp only[aD];omega,okIs_iff.2 hsp.2⟩
theorem GG {N:List Int} {x:It} (hl:N.length≤6) (hx:aX aD x) (ht:kG x):∃ (y:It) (r n:Int),qq 34 94 (N.map qI++[x]) y r n:=by
 have hln:(N.map qI++[x]).length≤10:=by rw[List.length_append,List.length_map,List.length_singleton];omega
 have hok:aX aD (dD (N.map qI++[x])):=qt hln fun y hy=>by
  rcases List.mem_append.1 hy with hy|hy
  ·obtain ⟨n,_,rfl⟩:=List.mem_map.1 hy
   exact zw n
  ·rw[List.mem_singleton] at hy;subst hy;exact hx
 have hp:dR 4325492 5 (dD (N.map qI++[x]))=4:=(uk (qr N)).trans (zx ht).1
 exact ⟨zI,4,0,⟨_,Fd hok (by show (N.map qI++[x]).length≤90000;omega) hp (by decide)⟩,⟨_,Fp (by show (N.map qI++[x]).length≤90000;omega) hp (by decide)⟩,ul,fun h=>by cases h⟩
theorem GH {V:List (Int × Int)} {x:It} (hl:V.length≤6) (hx:aX aD x) (ht:kG x):∃ (y:It) (r n:Int),qq 35 95 (V.map vP++[x]) y r n:=by
 have hln:(V.map vP++[x]).length≤10:=by rw[List.length_append,List.length_map,List.length_singleton];omega
 have hok:aX aD (dD (V.map vP++[x])):=qt hln fun y hy=>by
  rcases List.mem_append.1 hy with hy|hy
  ·obtain ⟨n,_,rfl⟩:=List.mem_map.1 hy
   exact p9 _ _
  ·rw[List.mem_singleton] at hy;subst hy;exact hx
 have hp:dR 4325481 1 (dD (V.map vP++[x]))=4:=(uk (qs V)).trans (zx ht).2
 exact ⟨zI,4,0,⟨_,FU hok (by show (V.map vP++[x]).length≤90000;omega) hp (by decide)⟩,⟨_,FX (by show (V.map vP++[x]).length≤90000;omega) hp (by decide)⟩,ul,fun h=>by cases h⟩
theorem iA {S G Z QT QF:Prop} {r n:Int} (hz:r=0→n≤8192∧Z) (s:S) (q:QT):ah (ag r 0) (Z∧ah (am 8192 n) G (ah (!ag r 0) (ah (ag r r) (S∧QT) QF) (ah (ag r r) (S∧QT) QF))) (ah (!ag r 0) (ah (ag r r) (S∧QT) QF) (ah (ag r r) (S∧QT) QF)):=by
 have hr:ag r r=true:=beqInt_iff.2 rfl
 have hend:ah (ag r r) (S∧QT) QF:=aw (fun _=>⟨s,q⟩) fun h=>by rw[hr] at h;cases h
 refine aw (fun h=> ?_) fun _=>aw (fun _=>hend) fun _=>hend
 obtain ⟨h1,h2⟩:=hz (beqInt_iff.1 h)
 exact ⟨h2,aw (fun h=>absurd (ltInt_iff.1 h) (by omega)) fun _=>aw (fun _=>hend) fun _=>hend⟩
theorem eO {f:FuncId} {ks:List It} {x:It} {r:Int} {k:AV} (h:∃N,BodySem Tryz.prog opts0.glob f [.ptr 0 0,ao (dD ks),eA] [] 1 (df x r) [] N) (hk:Wk k (.fsl false (ab ks))) (j nx:Nat):BodySem Tryz.prog opts0.glob f [.ptr j 0,.agg (ir k),eA] [] nx (df x r) [] nx:=by
 obtain ⟨N,h⟩:=h
 have hc:=cC (dD ks)
 have hx:=cC x
 have hb:=CP base0.glob (by simp only[ae,hc,eA,ad,Bool.and_self]) (by simp only[df,ad,ae,hx,Bool.and_self]) h j nx
 refine CO hb (.cons (.refl _) (.cons (.agg ?_) (.refl _)))
 show WkL (ir k) (ai 4325497 1 0 (aj []) (ab ks))
 exact .cons (.refl _) (.cons (.refl _) (.cons (.refl _) (.cons Wk.nil (.cons hk .nil))))
theorem iB:bw (cN Tryz.prog 3) 10=[aq Tryz.prog 3 10]:=by kernel_rfl
theorem dj {n:Nat} {h:aa} {i:Nat} (hi:Nat.blt i n=true):Frz n h (.ptr i 0) (.ptr i 0):=⟨1,by simp only[ay,hi]⟩
theorem qu {p q:Operand} {a b:Int} (h:b<a):an Tryz.prog .gtr 3 p q (I a) (I b)=some (.bool true):=by
 have:an Tryz.prog .gtr 3 p q (I a) (I b)=some (.bool (am b a)):=by kernel_rfl
 rw[this,ltInt_iff.2 h]
theorem qv {p q:Operand} {a b:Int} (h:a≤b):an Tryz.prog .gtr 3 p q (I a) (I b)=some (.bool false):=by
 have:an Tryz.prog .gtr 3 p q (I a) (I b)=some (.bool (am b a)):=by kernel_rfl
 rw[this,ltInt_false.2 h]
theorem qw {x:It} (h:aX aD x):SC 13 [ao x,ao x] (.bool true):=by
 have:=xH x x h
 rw[CI] at this
 exact this
theorem qx {ks:List It} (h:ab ks=[]):Wk .nilsl (.fsl false (ab ks)):=by rw[h];exact Wk.nil
theorem zy {a b c d:List AV} (h1:WkE a b) (h2:WkE c d):WkE (a++c) (b++d):=by
 refine ⟨by rw[List.length_append,List.length_append,h1.len,h2.len],fun i x y hx hy=> ?_⟩
 by_cases hi:i<a.length
 ·rw[List.getElem?_append_left hi] at hx
  rw[List.getElem?_append_left (by rw[←h1.len];exact hi)] at hy
  exact h1.at_ i x y hx hy
 ·rw[List.getElem?_append_right (by omega)] at hx
  rw[List.getElem?_append_right (by have:=h1.len;omega),←h1.len] at hy
  exact h2.at_ _ x y hx hy
theorem GI (l od:List Rw) (hv:BodySem Tryz.prog opts0.glob 5 [.nilsl,I 5] [] 7 (.tuple [.ptr 1682 0,.ptr 1897 0]) (li 1897) 2034) (hkn:SC 6 [] (.bool true)):SC 3 [.fsl false (l.map ak),.fsl false (od.map ak),.bool false] (.bool true):=by
 have hR:=dA l
 have hO:=dA od
 have hOl:ac (od.map ak)=od.length:=by rw[ap,List.length_map]
 have hcl:ae [.fsl false (l.map ak),.fsl false (od.map ak),.bool false]=true:=by simp only[ae,ad,hR,hO,Bool.and_self]
 obtain ⟨N,hl,hN,hlp⟩:=GB (l:=l) (od:=od) (min l.length 6) 0 [] (Nat.zero_add _) rfl (fun n h=>by cases h)
 have hwk:=zr N
 have hG:=lq ug N
 have hC:=qn N
 have hE:=gx hC (lr ui N)
 have hNl:(N.map qA).length=N.length:=List.length_map ..
 have hl6:N.length≤6:=by omega
 by_cases ho:3<od.length
 ·obtain ⟨X,⟨hX,htag⟩,hit⟩:=yh od
  obtain ⟨x,r,n,H⟩:=GG (N:=N) hl6 hX.2 htag
  have hsame:=qw H.k
  have hxok:∀e∈[ao X],cM 5 e:=fun e he=>by
   rw[List.mem_singleton] at he;subst he;exact tA X
  have hit':=hit
  have hXc:=cC X
  have hwk2:WkE (N.map qA++[ao X]) (ab (N.map qI++[X])):=by
   rw[kw]
   exact zy hwk (.refl _)
  have hG2:∀e∈N.map qA++[ao X],cM 5 e:=fun e he=>by
   rcases List.mem_append.1 he with he|he
   ·exact hG e he
   ·exact hxok e he
  have hC2:ae (N.map qA++[ao X])=true:=by rw[wv,hC];simp only[ae,hXc,Bool.and_self]
  have hp:=eO H.p (Wk.rows (f:=false) hwk2)
  have hq:=eO H.q (Wk.rows (f:=false) hwk2)
  have hz:=H.z
  clear H
  obtain ⟨xt,xy,xn,xd,xk⟩:=X
  obtain ⟨t,y,m,d,ks⟩:=x
  unfold df at hp hq
  rw[br] at hp hq hz hsame hit hwk2 hG2 hC2 hxok
  obtain ⟨L,hL⟩:∃L,N.map qA=L:=⟨_,rfl⟩
  simp only[hL] at hwk hG hC hE hNl hlp hp hq hwk2 hG2 hC2
  cases L with
  |nil=>
   refine gn (A:=dh [(10,dg (l.map ak) (od.map ak) false 24 (bt (l.map ak) (od.map ak) false 24 (min l.length 6)))] true 24 (.fsl false [.agg (ai xt xy xn (aj xd) (ab xk))]) (.tuple [.agg (ai t y m (aj d) (ab ks)),I r,.str []]) (ai xt xy xn (aj xd) (ab xk)) n) base0 (fc au) (aF (LsOk.at1 rfl iB fun st Q hs=> .seen base0.glob hs.1 (hlp Q hs.2))) hcl rfl ?_
   rw[Gd]
   exact ⟨hv,hkn,⟨⟨⟨rfl,hR⟩,⟨rfl,hO⟩,⟨rfl,rfl⟩,⟨rfl,rfl⟩,⟨rfl,rfl⟩,trivial⟩,⟨⟨rfl,rfl⟩,⟨rfl,rfl⟩,⟨rfl,rfl⟩,trivial⟩,⟨rfl,rfl⟩,⟨rfl,rfl⟩,trivial⟩,qu (by rw[hOl];simp only[Int.ofNat_eq_natCast];omega),hit,⟨⟨⟨1,rfl⟩,.ptr rfl rfl (.cons (.closed _ rfl) (.cons (.closed _ rfl) (.cons (.closed _ rfl) (.cons (.closed _ rfl) (.cons (Frz.row rfl rfl rfl rfl hxok hC2) .nil))))),dj rfl,dj rfl,trivial⟩,.closed _ rfl,trivial⟩,hp _ _,hq _ _,iA hz hsame rfl⟩
  |cons x0 L=>
   have h3:Nat.ble ((L.length+1+ac [AV.agg (ai xt xy xn (aj xd) (ab xk))])*72) 140737488355328=true:=Nat.ble_eq_true_of_le (by rw[show ac [AV.agg (ai xt xy xn (aj xd) (ab xk))]=1 from rfl];simp only[List.length_cons] at hNl;omega)
   have hl5:=qp hG
   refine gn (A:=dh [(10,dg (l.map ak) (od.map ak) false 24 (bB (l.map ak) (od.map ak) false 24 (min l.length 6) (L.length+1) (flat (x0::L))))] true 24 (.fsl false (x0::L++[.agg (ai xt xy xn (aj xd) (ab xk))])) (.tuple [.agg (ai t y m (aj d) (ab ks)),I r,.str []]) (ai xt xy xn (aj xd) (ab xk)) n) base0 (fc au) (aF (LsOk.at1 rfl iB fun st Q hs=> .seen base0.glob hs.1 (hlp Q hs.2))) hcl rfl ?_
   rw[Gf]
   exact ⟨hv,hkn,⟨⟨⟨rfl,hR⟩,⟨rfl,hO⟩,⟨rfl,rfl⟩,⟨rfl,rfl⟩,⟨rfl,rfl⟩,trivial⟩,⟨⟨rfl,rfl⟩,⟨rfl,rfl⟩,⟨rfl,rfl⟩,trivial⟩,⟨rfl,rfl⟩,⟨rfl,rfl⟩,trivial⟩,qu (by rw[hOl];simp only[Int.ofNat_eq_natCast];omega),hit,bD (ig rfl h3 rfl) (bD (by rw[beq_iff,hl5];rfl) ⟨⟨⟨⟨1,rfl⟩,.ptr rfl rfl (.cons (.closed _ rfl) (.cons (.closed _ rfl) (.cons (.closed _ rfl) (.cons (.closed _ rfl) (.cons (Frz.row rfl rfl (gi _ _).symm (by rw[List.length_append];rfl) hG2 hC2) .nil))))),dj rfl,dj rfl,trivial⟩,.closed _ rfl,trivial⟩,hp _ _,hq _ _,iA hz hsame rfl⟩)⟩
 ·obtain ⟨x,r,n,H⟩:=GE (N:=N) hN hl6
  have hsame:=qw H.k
  have hp:=eO H.p (Wk.rows (f:=false) hwk)
  have hq:=eO H.q (Wk.rows (f:=false) hwk)
  have hp0:=fun h=>eO H.p (qx h)
  have hq0:=fun h=>eO H.q (qx h)
  have hz:=H.z
  have hn0:N.map qA=[]→ab (N.map qI)=[]:=fun h=>List.eq_nil_of_length_eq_zero (by rw[←hwk.len,h];rfl)
  clear H
  obtain ⟨t,y,m,d,ks⟩:=x
  unfold df at hp hq hp0 hq0
  rw[br] at hp hq hz hsame hp0 hq0
  obtain ⟨L,hL⟩:∃L,N.map qA=L:=⟨_,rfl⟩
  simp only[hL] at hwk hG hC hE hNl hlp hp hq
  cases L with
  |nil=>
   refine gn (A:=dh [(10,dg (l.map ak) (od.map ak) false 24 (bt (l.map ak) (od.map ak) false 24 (min l.length 6)))] false 24 .nilsl (.tuple [.agg (ai t y m (aj d) (ab ks)),I r,.str []]) [] n) base0 (fc au) (aF (LsOk.at1 rfl iB fun st Q hs=> .seen base0.glob hs.1 (hlp Q hs.2))) hcl rfl ?_
   rw[Gc]
   exact ⟨hv,hkn,⟨⟨⟨rfl,hR⟩,⟨rfl,hO⟩,⟨rfl,rfl⟩,⟨rfl,rfl⟩,⟨rfl,rfl⟩,trivial⟩,⟨⟨rfl,rfl⟩,⟨rfl,rfl⟩,⟨rfl,rfl⟩,trivial⟩,⟨rfl,rfl⟩,⟨rfl,rfl⟩,trivial⟩,qv (by rw[hOl];simp only[Int.ofNat_eq_natCast];omega),⟨⟨⟨1,rfl⟩,.ptr rfl rfl (.closed _ rfl),dj rfl,dj rfl,trivial⟩,.closed _ rfl,trivial⟩,hp0 (hn0 hL) _ _,hq0 (hn0 hL) _ _,iA hz hsame rfl⟩
  |cons x0 L=>
   refine gn (A:=dh [(10,dg (l.map ak) (od.map ak) false 24 (bB (l.map ak) (od.map ak) false 24 (min l.length 6) (L.length+1) (flat (x0::L))))] false 24 (.fsl false (x0::L)) (.tuple [.agg (ai t y m (aj d) (ab ks)),I r,.str []]) [] n) base0 (fc au) (aF (LsOk.at1 rfl iB fun st Q hs=> .seen base0.glob hs.1 (hlp Q hs.2))) hcl rfl ?_
   rw[Ge]
   exact ⟨hv,hkn,⟨⟨⟨rfl,hR⟩,⟨rfl,hO⟩,⟨rfl,rfl⟩,⟨rfl,rfl⟩,⟨rfl,rfl⟩,trivial⟩,⟨⟨rfl,rfl⟩,⟨rfl,rfl⟩,⟨rfl,rfl⟩,trivial⟩,⟨rfl,rfl⟩,⟨rfl,rfl⟩,trivial⟩,qv (by rw[hOl];simp only[Int.ofNat_eq_natCast];omega),⟨⟨⟨1,rfl⟩,.ptr rfl rfl (.cons (.closed _ rfl) (.cons (.closed _ rfl) (.cons (.closed _ rfl) (.cons (.closed _ rfl) (.cons (Frz.row rfl rfl rfl rfl hG hC) .nil))))),dj rfl,dj rfl,trivial⟩,.closed _ rfl,trivial⟩,hp _ _,hq _ _,iA hz hsame rfl⟩
theorem GJ (l od:List Rw) (hv:BodySem Tryz.prog opts0.glob 5 [.nilsl,I 5] [] 7 (.tuple [.ptr 1682 0,.ptr 1897 0]) (li 1897) 2034) (hkn:SC 6 [] (.bool true)):SC 3 [.fsl false (l.map ak),.fsl false (od.map ak),.bool true] (.bool true):=by
 have hR:=dA l
 have hO:=dA od
 have hOl:ac (od.map ak)=od.length:=by rw[ap,List.length_map]
 have hcl:ae [.fsl false (l.map ak),.fsl false (od.map ak),.bool true]=true:=by simp only[ae,ad,hR,hO,Bool.and_self]
 obtain ⟨N,hl,hlp⟩:=GC (l:=l) (od:=od) (min l.length 6) 0 [] (Nat.zero_add _) rfl
 have hwk:=zs N
 have hG:=lq uh N
 have hC:=qo N
 have hE:=gx hC (lr uj N)
 have hNl:(N.map vA).length=N.length:=List.length_map ..
 have hl6:N.length≤6:=by omega
 by_cases ho:3<od.length
 ·obtain ⟨X,⟨hX,htag⟩,hit⟩:=yh od
  obtain ⟨x,r,n,H⟩:=GH (V:=N) hl6 hX.2 htag
  have hsame:=qw H.k
  have hxok:∀e∈[ao X],cM 5 e:=fun e he=>by
   rw[List.mem_singleton] at he;subst he;exact tA X
  have hit':=hit
  have hXc:=cC X
  have hwk2:WkE (N.map vA++[ao X]) (ab (N.map vP++[X])):=by
   rw[kw]
   exact zy hwk (.refl _)
  have hG2:∀e∈N.map vA++[ao X],cM 5 e:=fun e he=>by
   rcases List.mem_append.1 he with he|he
   ·exact hG e he
   ·exact hxok e he
  have hC2:ae (N.map vA++[ao X])=true:=by rw[wv,hC];simp only[ae,hXc,Bool.and_self]
  have hp:=eO H.p (Wk.rows (f:=false) hwk2)
  have hq:=eO H.q (Wk.rows (f:=false) hwk2)
  have hz:=H.z
  clear H
  obtain ⟨xt,xy,xn,xd,xk⟩:=X
  obtain ⟨t,y,m,d,ks⟩:=x
  unfold df at hp hq
  rw[br] at hp hq hz hsame hit hwk2 hG2 hC2 hxok
  obtain ⟨L,hL⟩:∃L,N.map vA=L:=⟨_,rfl⟩
  simp only[hL] at hwk hG hC hE hNl hlp hp hq hwk2 hG2 hC2
  cases L with
  |nil=>
   refine gn (A:=dh [(10,dg (l.map ak) (od.map ak) true 30 (bt (l.map ak) (od.map ak) true 30 (min l.length 6)))] true 30 (.fsl false [.agg (ai xt xy xn (aj xd) (ab xk))]) (.tuple [.agg (ai t y m (aj d) (ab ks)),I r,.str []]) (ai xt xy xn (aj xd) (ab xk)) n) base0 (fc au) (aF (LsOk.at1 rfl iB fun st Q hs=> .seen base0.glob hs.1 (hlp Q hs.2))) hcl rfl ?_
   rw[Gh]
   exact ⟨hv,hkn,⟨⟨⟨rfl,hR⟩,⟨rfl,hO⟩,⟨rfl,rfl⟩,⟨rfl,rfl⟩,⟨rfl,rfl⟩,trivial⟩,⟨⟨rfl,rfl⟩,⟨rfl,rfl⟩,⟨rfl,rfl⟩,trivial⟩,⟨rfl,rfl⟩,⟨rfl,rfl⟩,trivial⟩,qu (by rw[hOl];simp only[Int.ofNat_eq_natCast];omega),hit,⟨⟨⟨1,rfl⟩,.ptr rfl rfl (.cons (.closed _ rfl) (.cons (.closed _ rfl) (.cons (.closed _ rfl) (.cons (.closed _ rfl) (.cons (Frz.row rfl rfl rfl rfl hxok hC2) .nil))))),dj rfl,dj rfl,trivial⟩,.closed _ rfl,trivial⟩,hp _ _,hq _ _,iA hz hsame rfl⟩
  |cons x0 L=>
   have h3:Nat.ble ((L.length+1+ac [AV.agg (ai xt xy xn (aj xd) (ab xk))])*72) 140737488355328=true:=Nat.ble_eq_true_of_le (by rw[show ac [AV.agg (ai xt xy xn (aj xd) (ab xk))]=1 from rfl];simp only[List.length_cons] at hNl;omega)
   have hl5:=qp hG
   refine gn (A:=dh [(10,dg (l.map ak) (od.map ak) true 30 (bB (l.map ak) (od.map ak) true 30 (min l.length 6) (L.length+1) (flat (x0::L))))] true 30 (.fsl false (x0::L++[.agg (ai xt xy xn (aj xd) (ab xk))])) (.tuple [.agg (ai t y m (aj d) (ab ks)),I r,.str []]) (ai xt xy xn (aj xd) (ab xk)) n) base0 (fc au) (aF (LsOk.at1 rfl iB fun st Q hs=> .seen base0.glob hs.1 (hlp Q hs.2))) hcl rfl ?_
   rw[Gj]
   exact ⟨hv,hkn,⟨⟨⟨rfl,hR⟩,⟨rfl,hO⟩,⟨rfl,rfl⟩,⟨rfl,rfl⟩,⟨rfl,rfl⟩,trivial⟩,⟨⟨rfl,rfl⟩,⟨rfl,rfl⟩,⟨rfl,rfl⟩,trivial⟩,⟨rfl,rfl⟩,⟨rfl,rfl⟩,trivial⟩,qu (by rw[hOl];simp only[Int.ofNat_eq_natCast];omega),hit,bD (ig rfl h3 rfl) (bD (by rw[beq_iff,hl5];rfl) ⟨⟨⟨⟨1,rfl⟩,.ptr rfl rfl (.cons (.closed _ rfl) (.cons (.closed _ rfl) (.cons (.closed _ rfl) (.cons (.closed _ rfl) (.cons (Frz.row rfl rfl (gi _ _).symm (by rw[List.length_append];rfl) hG2 hC2) .nil))))),dj rfl,dj rfl,trivial⟩,.closed _ rfl,trivial⟩,hp _ _,hq _ _,iA hz hsame rfl⟩)⟩
 ·obtain ⟨x,r,n,H⟩:=GF (V:=N) hl6
  have hsame:=qw H.k
  have hp:=eO H.p (Wk.rows (f:=false) hwk)
  have hq:=eO H.q (Wk.rows (f:=false) hwk)
  have hp0:=fun h=>eO H.p (qx h)
  have hq0:=fun h=>eO H.q (qx h)
  have hz:=H.z
  have hn0:N.map vA=[]→ab (N.map vP)=[]:=fun h=>List.eq_nil_of_length_eq_zero (by rw[←hwk.len,h];rfl)
  clear H
  obtain ⟨t,y,m,d,ks⟩:=x
  unfold df at hp hq hp0 hq0
  rw[br] at hp hq hz hsame hp0 hq0
  obtain ⟨L,hL⟩:∃L,N.map vA=L:=⟨_,rfl⟩
  simp only[hL] at hwk hG hC hE hNl hlp hp hq
  cases L with
  |nil=>
   refine gn (A:=dh [(10,dg (l.map ak) (od.map ak) true 30 (bt (l.map ak) (od.map ak) true 30 (min l.length 6)))] false 30 .nilsl (.tuple [.agg (ai t y m (aj d) (ab ks)),I r,.str []]) [] n) base0 (fc au) (aF (LsOk.at1 rfl iB fun st Q hs=> .seen base0.glob hs.1 (hlp Q hs.2))) hcl rfl ?_
   rw[Gg]
   exact ⟨hv,hkn,⟨⟨⟨rfl,hR⟩,⟨rfl,hO⟩,⟨rfl,rfl⟩,⟨rfl,rfl⟩,⟨rfl,rfl⟩,trivial⟩,⟨⟨rfl,rfl⟩,⟨rfl,rfl⟩,⟨rfl,rfl⟩,trivial⟩,⟨rfl,rfl⟩,⟨rfl,rfl⟩,trivial⟩,qv (by rw[hOl];simp only[Int.ofNat_eq_natCast];omega),⟨⟨⟨1,rfl⟩,.ptr rfl rfl (.closed _ rfl),dj rfl,dj rfl,trivial⟩,.closed _ rfl,trivial⟩,hp0 (hn0 hL) _ _,hq0 (hn0 hL) _ _,iA hz hsame rfl⟩
  |cons x0 L=>
   refine gn (A:=dh [(10,dg (l.map ak) (od.map ak) true 30 (bB (l.map ak) (od.map ak) true 30 (min l.length 6) (L.length+1) (flat (x0::L))))] false 30 (.fsl false (x0::L)) (.tuple [.agg (ai t y m (aj d) (ab ks)),I r,.str []]) [] n) base0 (fc au) (aF (LsOk.at1 rfl iB fun st Q hs=> .seen base0.glob hs.1 (hlp Q hs.2))) hcl rfl ?_
   rw[Gi]
   exact ⟨hv,hkn,⟨⟨⟨rfl,hR⟩,⟨rfl,hO⟩,⟨rfl,rfl⟩,⟨rfl,rfl⟩,⟨rfl,rfl⟩,trivial⟩,⟨⟨rfl,rfl⟩,⟨rfl,rfl⟩,⟨rfl,rfl⟩,trivial⟩,⟨rfl,rfl⟩,⟨rfl,rfl⟩,trivial⟩,qv (by rw[hOl];simp only[Int.ofNat_eq_natCast];omega),⟨⟨⟨1,rfl⟩,.ptr rfl rfl (.cons (.closed _ rfl) (.cons (.closed _ rfl) (.cons (.closed _ rfl) (.cons (.closed _ rfl) (.cons (Frz.row rfl rfl rfl rfl hG hC) .nil))))),dj rfl,dj rfl,trivial⟩,.closed _ rfl,trivial⟩,hp _ _,hq _ _,iA hz hsame rfl⟩
theorem GK (l od:List Rw) (w:Bool) (hv:BodySem Tryz.prog opts0.glob 5 [.nilsl,I 5] [] 7 (.tuple [.ptr 1682 0,.ptr 1897 0]) (li 1897) 2034) (hkn:SC 6 [] (.bool true)):SC 3 [.fsl false (l.map ak),.fsl false (od.map ak),.bool w] (.bool true):=by
 cases w with
 |false=>exact GI l od hv hkn
 |true=>exact GJ l od hv hkn
end Go.Proofs.YtjmnheinkchlfaaGreatDoor
