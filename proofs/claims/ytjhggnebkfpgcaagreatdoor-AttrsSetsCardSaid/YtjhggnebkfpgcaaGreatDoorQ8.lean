/- RWithP, Back, RWithQ, RLay, RLayP, Kno, SetsW, SetI, LawSets. -/
import Derived.Test.YtjhggnebkfpgcaaGreatDoorQ7
import Derived.KernelRfl
import Derived.Test.YtjhggnebkfpgcaaGreatDoorQ4
import Derived.Test.YtjhggnebkfpgcaaGreatDoorQ5
namespace Go.Proofs.YtjhggnebkfpgcaaGreatDoor
set_option maxRecDepth 20000
open Go Go.RowKit
open Go.Proofs.Abs
theorem conv_str (d:List UInt8):convA Tryz.prog 23 9 (.fsl false (toBytes d))=some (Eff.val (.str d)):=fsl_conv (e:=5) (by kernel_rfl) (by kernel_rfl) (by kernel_rfl)
theorem eqlS (p q:Operand) (x y:List UInt8):binA Tryz.prog .eql 9 p q (.str x) (.str y)=some (.bool (beqBytes x y)):=by kernel_rfl
theorem eqlI (p q:Operand) (x y:Int):binA Tryz.prog .eql 3 p q (I x) (I y)=some (.bool (beqInt x y)):=by kernel_rfl
theorem closed_wi (o:Ob) {ms ns ls cs:List AV} (hM:closedAll ms=true) (hN:closedAll ns=true) (hL:closedAll ls=true) (hC:closedAll cs=true) (k:Kd) (a:At):closedAll [.agg (obF o (.fsl false ms) (.fsl false ns) (.fsl false ls) (.fsl false cs)),rrA k,atA a]=true:=by
 have h1:=closed_obF o (M:= .fsl false ms) (N:= .fsl false ns) (L:= .fsl false ls) (C:= .fsl false cs) hM hN hL hC
 have h2:=closed_atA a
 simp only[closedAll,closedA,h1,h2,rrA,rrC,Bool.and_self]
theorem fits_f (o:Ob) (ms ns ls cs:List AV):fitsT Tryz.prog 33 (.agg (obF o (.fsl false ms) (.fsl false ns) (.fsl false ls) (.fsl false cs))) 37=true:=by kernel_rfl
theorem fits_n (o:Ob) (ms ls cs:List AV) (i n:Nat):fitsT Tryz.prog 33 (.agg (obF o (.fsl false ms) (.rsl true i 0 n 1) (.fsl false ls) (.fsl false cs))) 37=true:=by kernel_rfl
theorem fits_l (o:Ob) (ms ns cs:List AV) (i n:Nat):fitsT Tryz.prog 33 (.agg (obF o (.fsl false ms) (.fsl false ns) (.rsl true i 0 n 2) (.fsl false cs))) 37=true:=by kernel_rfl
theorem fits_c (o:Ob) (ms ns ls:List AV) (i n:Nat):fitsT Tryz.prog 33 (.agg (obF o (.fsl false ms) (.fsl false ns) (.fsl false ls) (.rsl true i 0 n 2))) 37=true:=by kernel_rfl
section
variable {o:Ob} {ms ns ls cs:List AV} {s:List UInt8} {t y n:Int} {d:List UInt8} {ks:List It}
theorem w_alg (hM:closedAll ms=true) (hN:closedAll ns=true) (hL:closedAll ls=true) (hC:closedAll cs=true) (i:Int):SC 81 [.agg (obF o (.fsl false ms) (.fsl false ns) (.fsl false ls) (.fsl false cs)),rrA .alg,atA ⟨s,i,.mk t y n d ks⟩] (.agg (obF {o with alg:=n} (.fsl false ms) (.fsl false ns) (.fsl false ls) (.fsl false cs))):=by
 refine fnK_semE (A:=rwX []) base0 aidJ_ok (fnLs_of (LsOk.no rfl)) (closed_wi o hM hN hL hC _ _) ?_
 rw[atA_F,rw_alg]
 exact oblB_of (fits_f {o with alg:=n} _ _ _ _) (end_self (closed_obF {o with alg:=n} (M:= .fsl false ms) (N:= .fsl false ns) (L:= .fsl false ls) (C:= .fsl false cs) hM hN hL hC))
theorem w_len (hM:closedAll ms=true) (hN:closedAll ns=true) (hL:closedAll ls=true) (hC:closedAll cs=true) (i:Int):SC 81 [.agg (obF o (.fsl false ms) (.fsl false ns) (.fsl false ls) (.fsl false cs)),rrA .len,atA ⟨s,i,.mk t y n d ks⟩] (.agg (obF {o with len:=n} (.fsl false ms) (.fsl false ns) (.fsl false ls) (.fsl false cs))):=by
 refine fnK_semE (A:=rwX []) base0 aidJ_ok (fnLs_of (LsOk.no rfl)) (closed_wi o hM hN hL hC _ _) ?_
 rw[atA_F,rw_len]
 exact oblB_of (fits_f {o with len:=n} _ _ _ _) (end_self (closed_obF {o with len:=n} (M:= .fsl false ms) (N:= .fsl false ns) (L:= .fsl false ls) (C:= .fsl false cs) hM hN hL hC))
theorem w_mask (hM:closedAll ms=true) (hN:closedAll ns=true) (hL:closedAll ls=true) (hC:closedAll cs=true) (i:Int):SC 81 [.agg (obF o (.fsl false ms) (.fsl false ns) (.fsl false ls) (.fsl false cs)),rrA .mask,atA ⟨s,i,.mk t y n d ks⟩] (.agg (obF {o with mask:=n} (.fsl false ms) (.fsl false ns) (.fsl false ls) (.fsl false cs))):=by
 refine fnK_semE (A:=rwX []) base0 aidJ_ok (fnLs_of (LsOk.no rfl)) (closed_wi o hM hN hL hC _ _) ?_
 rw[atA_F,rw_mask]
 exact oblB_of (fits_f {o with mask:=n} _ _ _ _) (end_self (closed_obF {o with mask:=n} (M:= .fsl false ms) (N:= .fsl false ns) (L:= .fsl false ls) (C:= .fsl false cs) hM hN hL hC))
theorem w_dat1 (hM:closedAll ms=true) (hN:closedAll ns=true) (hL:closedAll ls=true) (hC:closedAll cs=true) (i:Int):SC 81 [.agg (obF o (.fsl false ms) (.fsl false ns) (.fsl false ls) (.fsl false cs)),rrA (.dat 1),atA ⟨s,i,.mk t y n d ks⟩] (.agg (obF {o with d1:=⟨true,n⟩} (.fsl false ms) (.fsl false ns) (.fsl false ls) (.fsl false cs))):=by
 refine fnK_semE (A:=rwX []) base0 aidJ_ok (fnLs_of (LsOk.no rfl)) (closed_wi o hM hN hL hC _ _) ?_
 rw[atA_F,rw_dat1]
 exact oblB_of (fits_f {o with d1:=⟨true,n⟩} _ _ _ _) (end_self (closed_obF {o with d1:=⟨true,n⟩} (M:= .fsl false ms) (N:= .fsl false ns) (L:= .fsl false ls) (C:= .fsl false cs) hM hN hL hC))
theorem w_dat2 (hM:closedAll ms=true) (hN:closedAll ns=true) (hL:closedAll ls=true) (hC:closedAll cs=true) (i:Int):SC 81 [.agg (obF o (.fsl false ms) (.fsl false ns) (.fsl false ls) (.fsl false cs)),rrA (.dat 2),atA ⟨s,i,.mk t y n d ks⟩] (.agg (obF {o with d2:=⟨true,n⟩} (.fsl false ms) (.fsl false ns) (.fsl false ls) (.fsl false cs))):=by
 refine fnK_semE (A:=rwX []) base0 aidJ_ok (fnLs_of (LsOk.no rfl)) (closed_wi o hM hN hL hC _ _) ?_
 rw[atA_F,rw_dat2]
 exact oblB_of (fits_f {o with d2:=⟨true,n⟩} _ _ _ _) (end_self (closed_obF {o with d2:=⟨true,n⟩} (M:= .fsl false ms) (N:= .fsl false ns) (L:= .fsl false ls) (C:= .fsl false cs) hM hN hL hC))
theorem w_dat3 (hM:closedAll ms=true) (hN:closedAll ns=true) (hL:closedAll ls=true) (hC:closedAll cs=true) (i:Int):SC 81 [.agg (obF o (.fsl false ms) (.fsl false ns) (.fsl false ls) (.fsl false cs)),rrA (.dat 3),atA ⟨s,i,.mk t y n d ks⟩] (.agg (obF {o with d3:=⟨true,n⟩} (.fsl false ms) (.fsl false ns) (.fsl false ls) (.fsl false cs))):=by
 refine fnK_semE (A:=rwX []) base0 aidJ_ok (fnLs_of (LsOk.no rfl)) (closed_wi o hM hN hL hC _ _) ?_
 rw[atA_F,rw_dat3]
 exact oblB_of (fits_f {o with d3:=⟨true,n⟩} _ _ _ _) (end_self (closed_obF {o with d3:=⟨true,n⟩} (M:= .fsl false ms) (N:= .fsl false ns) (L:= .fsl false ls) (C:= .fsl false cs) hM hN hL hC))
theorem w_dat4 (hM:closedAll ms=true) (hN:closedAll ns=true) (hL:closedAll ls=true) (hC:closedAll cs=true) (i:Int):SC 81 [.agg (obF o (.fsl false ms) (.fsl false ns) (.fsl false ls) (.fsl false cs)),rrA (.dat 4),atA ⟨s,i,.mk t y n d ks⟩] (.agg (obF {o with d4:=⟨true,n⟩} (.fsl false ms) (.fsl false ns) (.fsl false ls) (.fsl false cs))):=by
 refine fnK_semE (A:=rwX []) base0 aidJ_ok (fnLs_of (LsOk.no rfl)) (closed_wi o hM hN hL hC _ _) ?_
 rw[atA_F,rw_dat4]
 exact oblB_of (fits_f {o with d4:=⟨true,n⟩} _ _ _ _) (end_self (closed_obF {o with d4:=⟨true,n⟩} (M:= .fsl false ms) (N:= .fsl false ns) (L:= .fsl false ls) (C:= .fsl false cs) hM hN hL hC))
theorem w_lim (hM:closedAll ms=true) (hN:closedAll ns=true) (hL:closedAll ls=true) (hC:closedAll cs=true) (i t0 y0 n0 t1 y1 n1 t2 y2 n2:Int) (d0 d1 d2:List UInt8) (k0 k1 k2:List It):SC 81 [.agg (obF o (.fsl false ms) (.fsl false ns) (.fsl false ls) (.fsl false cs)),rrA .lim,atA ⟨s,i,.mk t y n d [.mk t0 y0 n0 d0 k0,.mk t1 y1 n1 d1 k1,.mk t2 y2 n2 d2 k2]⟩] (.agg (obF {o with lh:=true,lt:=n0,lc:=n1,lu:=n2} (.fsl false ms) (.fsl false ns) (.fsl false ls) (.fsl false cs))):=by
 have g0:=idxI (f:=false) (ks:=[.mk t0 y0 n0 d0 k0,.mk t1 y1 n1 d1 k1,.mk t2 y2 n2 d2 k2]) (i:=0) rfl
 have g1:=idxI (f:=false) (ks:=[.mk t0 y0 n0 d0 k0,.mk t1 y1 n1 d1 k1,.mk t2 y2 n2 d2 k2]) (i:=1) rfl
 have g2:=idxI (f:=false) (ks:=[.mk t0 y0 n0 d0 k0,.mk t1 y1 n1 d1 k1,.mk t2 y2 n2 d2 k2]) (i:=2) rfl
 refine fnK_semE (A:=rwX [(30,2,.res (.fptr (itF t0 y0 n0 (toBytes d0) (itAs k0)) 0)),(30,7,.res (.fptr (itF t1 y1 n1 (toBytes d1) (itAs k1)) 0)),(30,12,.res (.fptr (itF t2 y2 n2 (toBytes d2) (itAs k2)) 0))]) base0 aidJ_ok (fnLs_of (LsOk.no rfl)) (closed_wi o hM hN hL hC _ _) ?_
 rw[atA_F,rw_lim]
 exact ⟨g0,g1,g2,oblB_of (fits_f {o with lh:=true,lt:=n0,lc:=n1,lu:=n2} _ _ _ _) (end_self (closed_obF {o with lh:=true,lt:=n0,lc:=n1,lu:=n2} (M:= .fsl false ms) (N:= .fsl false ns) (L:= .fsl false ls) (C:= .fsl false cs) hM hN hL hC))⟩
theorem end_ob {o:Ob} {H:Heap} {M N L C N' L' C':AV} (hM:closedA M=true) (hN:Frz 0 H N N') (hL:Frz 0 H L L') (hC:Frz 0 H C C') (h:closedA (.agg (obF o M N' L' C'))=true):endX (.agg (obF o M N' L' C')) (.agg (obF o M N L C)) H:=⟨_,(frz_ob hM hN hL hC).out,h,.refl _⟩
theorem w_nam0 (hM:closedAll ms=true) (hL:closedAll ls=true) (hC:closedAll cs=true) (x:List UInt8):SC 81 [.agg (obF o (.fsl false ms) (.fsl false []) (.fsl false ls) (.fsl false cs)),rrA .nam,atA ⟨s,.ofNat 0,.mk t y n x ks⟩] (.agg (obF o (.fsl false ms) (.fsl false [.str x]) (.fsl false ls) (.fsl false cs))):=by
 refine fnK_semX (A:=rwX [(17,6,.res (.str x))]) base0 aidJ_ok (fnLs_of (LsOk.no rfl)) (closed_wi o hM rfl hL hC _ _) ?_
 rw[atA_F]
 show fnK _ _ _ _ _ [_,_,.agg (.str s::I 0::itF t y n (toBytes x) (itAs ks))] _ _ _
 rw[rw_nam0]
 refine ⟨conv_str x,oblB_of (fits_n o _ _ _ _ _) (end_ob hM (Frz.row (es:=[.str x]) rfl rfl rfl rfl (fun e he=> ?_) rfl) (.closed _ hL) (.closed _ hC) (closed_obF o (M:= .fsl false ms) (N:= .fsl false _) (L:= .fsl false ls) (C:= .fsl false cs) hM rfl hL hC))⟩
 simp only[List.mem_cons,List.not_mem_nil,or_false] at he
 subst he;exact ⟨rfl,rfl⟩
theorem w_nam1 (hM:closedAll ms=true) (hL:closedAll ls=true) (hC:closedAll cs=true) (a:List UInt8) (x:List UInt8):SC 81 [.agg (obF o (.fsl false ms) (.fsl false [.str a]) (.fsl false ls) (.fsl false cs)),rrA .nam,atA ⟨s,.ofNat 1,.mk t y n x ks⟩] (.agg (obF o (.fsl false ms) (.fsl false [.str a,.str x]) (.fsl false ls) (.fsl false cs))):=by
 refine fnK_semX (A:=rwX [(17,6,.res (.str x))]) base0 aidJ_ok (fnLs_of (LsOk.no rfl)) (closed_wi o hM rfl hL hC _ _) ?_
 rw[atA_F]
 show fnK _ _ _ _ _ [_,_,.agg (.str s::I 1::itF t y n (toBytes x) (itAs ks))] _ _ _
 rw[rw_nam1]
 refine ⟨conv_str x,oblB_of (fits_n o _ _ _ _ _) (end_ob hM (Frz.row (es:=[.str a,.str x]) rfl rfl rfl rfl (fun e he=> ?_) rfl) (.closed _ hL) (.closed _ hC) (closed_obF o (M:= .fsl false ms) (N:= .fsl false _) (L:= .fsl false ls) (C:= .fsl false cs) hM rfl hL hC))⟩
 simp only[List.mem_cons,List.not_mem_nil,or_false] at he
 rcases he with rfl|rfl<;>exact ⟨rfl,rfl⟩
theorem w_nam2 (hM:closedAll ms=true) (hL:closedAll ls=true) (hC:closedAll cs=true) (a b:List UInt8) (x:List UInt8):SC 81 [.agg (obF o (.fsl false ms) (.fsl false [.str a,.str b]) (.fsl false ls) (.fsl false cs)),rrA .nam,atA ⟨s,.ofNat 2,.mk t y n x ks⟩] (.agg (obF o (.fsl false ms) (.fsl false [.str a,.str b,.str x]) (.fsl false ls) (.fsl false cs))):=by
 refine fnK_semX (A:=rwX [(17,6,.res (.str x))]) base0 aidJ_ok (fnLs_of (LsOk.no rfl)) (closed_wi o hM rfl hL hC _ _) ?_
 rw[atA_F]
 show fnK _ _ _ _ _ [_,_,.agg (.str s::I 2::itF t y n (toBytes x) (itAs ks))] _ _ _
 rw[rw_nam2]
 refine ⟨conv_str x,oblB_of (fits_n o _ _ _ _ _) (end_ob hM (Frz.row (es:=[.str a,.str b,.str x]) rfl rfl rfl rfl (fun e he=> ?_) rfl) (.closed _ hL) (.closed _ hC) (closed_obF o (M:= .fsl false ms) (N:= .fsl false _) (L:= .fsl false ls) (C:= .fsl false cs) hM rfl hL hC))⟩
 simp only[List.mem_cons,List.not_mem_nil,or_false] at he
 rcases he with rfl|rfl|rfl<;>exact ⟨rfl,rfl⟩
theorem w_nam3 (hM:closedAll ms=true) (hL:closedAll ls=true) (hC:closedAll cs=true) (a b c:List UInt8) (x:List UInt8):SC 81 [.agg (obF o (.fsl false ms) (.fsl false [.str a,.str b,.str c]) (.fsl false ls) (.fsl false cs)),rrA .nam,atA ⟨s,.ofNat 3,.mk t y n x ks⟩] (.agg (obF o (.fsl false ms) (.fsl false [.str a,.str b,.str c,.str x]) (.fsl false ls) (.fsl false cs))):=by
 refine fnK_semX (A:=rwX [(17,6,.res (.str x))]) base0 aidJ_ok (fnLs_of (LsOk.no rfl)) (closed_wi o hM rfl hL hC _ _) ?_
 rw[atA_F]
 show fnK _ _ _ _ _ [_,_,.agg (.str s::I 3::itF t y n (toBytes x) (itAs ks))] _ _ _
 rw[rw_nam3]
 refine ⟨conv_str x,oblB_of (fits_n o _ _ _ _ _) (end_ob hM (Frz.row (es:=[.str a,.str b,.str c,.str x]) rfl rfl rfl rfl (fun e he=> ?_) rfl) (.closed _ hL) (.closed _ hC) (closed_obF o (M:= .fsl false ms) (N:= .fsl false _) (L:= .fsl false ls) (C:= .fsl false cs) hM rfl hL hC))⟩
 simp only[List.mem_cons,List.not_mem_nil,or_false] at he
 rcases he with rfl|rfl|rfl|rfl<;>exact ⟨rfl,rfl⟩
theorem w_nam4 (hM:closedAll ms=true) (hL:closedAll ls=true) (hC:closedAll cs=true) (a b c d:List UInt8) (x:List UInt8):SC 81 [.agg (obF o (.fsl false ms) (.fsl false [.str a,.str b,.str c,.str d]) (.fsl false ls) (.fsl false cs)),rrA .nam,atA ⟨s,.ofNat 4,.mk t y n x ks⟩] (.agg (obF o (.fsl false ms) (.fsl false [.str a,.str b,.str c,.str d,.str x]) (.fsl false ls) (.fsl false cs))):=by
 refine fnK_semX (A:=rwX [(17,6,.res (.str x))]) base0 aidJ_ok (fnLs_of (LsOk.no rfl)) (closed_wi o hM rfl hL hC _ _) ?_
 rw[atA_F]
 show fnK _ _ _ _ _ [_,_,.agg (.str s::I 4::itF t y n (toBytes x) (itAs ks))] _ _ _
 rw[rw_nam4]
 refine ⟨conv_str x,oblB_of (fits_n o _ _ _ _ _) (end_ob hM (Frz.row (es:=[.str a,.str b,.str c,.str d,.str x]) rfl rfl rfl rfl (fun e he=> ?_) rfl) (.closed _ hL) (.closed _ hC) (closed_obF o (M:= .fsl false ms) (N:= .fsl false _) (L:= .fsl false ls) (C:= .fsl false cs) hM rfl hL hC))⟩
 simp only[List.mem_cons,List.not_mem_nil,or_false] at he
 rcases he with rfl|rfl|rfl|rfl|rfl<;>exact ⟨rfl,rfl⟩
theorem w_nam5 (hM:closedAll ms=true) (hL:closedAll ls=true) (hC:closedAll cs=true) (a b c d e:List UInt8) (x:List UInt8):SC 81 [.agg (obF o (.fsl false ms) (.fsl false [.str a,.str b,.str c,.str d,.str e]) (.fsl false ls) (.fsl false cs)),rrA .nam,atA ⟨s,.ofNat 5,.mk t y n x ks⟩] (.agg (obF o (.fsl false ms) (.fsl false [.str a,.str b,.str c,.str d,.str e,.str x]) (.fsl false ls) (.fsl false cs))):=by
 refine fnK_semX (A:=rwX [(17,6,.res (.str x))]) base0 aidJ_ok (fnLs_of (LsOk.no rfl)) (closed_wi o hM rfl hL hC _ _) ?_
 rw[atA_F]
 show fnK _ _ _ _ _ [_,_,.agg (.str s::I 5::itF t y n (toBytes x) (itAs ks))] _ _ _
 rw[rw_nam5]
 refine ⟨conv_str x,oblB_of (fits_n o _ _ _ _ _) (end_ob hM (Frz.row (es:=[.str a,.str b,.str c,.str d,.str e,.str x]) rfl rfl rfl rfl (fun e he=> ?_) rfl) (.closed _ hL) (.closed _ hC) (closed_obF o (M:= .fsl false ms) (N:= .fsl false _) (L:= .fsl false ls) (C:= .fsl false cs) hM rfl hL hC))⟩
 simp only[List.mem_cons,List.not_mem_nil,or_false] at he
 rcases he with rfl|rfl|rfl|rfl|rfl|rfl<;>exact ⟨rfl,rfl⟩
theorem w_nam (hM:closedAll ms=true) (hL:closedAll ls=true) (hC:closedAll cs=true) (x:List UInt8):∀l:List (List UInt8),l.length<6→SC 81 [.agg (obF o (.fsl false ms) (.fsl false (l.map .str)) (.fsl false ls) (.fsl false cs)),rrA .nam,atA ⟨s,.ofNat l.length,.mk t y n x ks⟩] (.agg (obF o (.fsl false ms) (.fsl false ((l++[x]).map .str)) (.fsl false ls) (.fsl false cs)))
 |[],_=>w_nam0 hM hL hC x
 |[a],_=>w_nam1 hM hL hC a x
 |[a,b],_=>w_nam2 hM hL hC a b x
 |[a,b,c],_=>w_nam3 hM hL hC a b c x
 |[a,b,c,d],_=>w_nam4 hM hL hC a b c d x
 |[a,b,c,d,e],_=>w_nam5 hM hL hC a b c d e x
 |_::_::_::_::_::_::_,h=>absurd h (by simp)
theorem w_lnk0 (hM:closedAll ms=true) (hN:closedAll ns=true) (hC:closedAll cs=true) (x:List UInt8) (t0 y0 n0 t1 y1 n1:Int) (d0:List UInt8) (k0 k1:List It):SC 81 [.agg (obF o (.fsl false ms) (.fsl false ns) (.fsl false []) (.fsl false cs)),rrA .lnk,atA ⟨s,.ofNat 0,.mk t y n d [.mk t0 y0 n0 d0 k0,.mk t1 y1 n1 x k1]⟩] (.agg (obF o (.fsl false ms) (.fsl false ns) (.fsl false [lkA ⟨n0,x⟩]) (.fsl false cs))):=by
 have g0:=idxI (f:=false) (ks:=[.mk t0 y0 n0 d0 k0,.mk t1 y1 n1 x k1]) (i:=0) rfl
 have g1:=idxI (f:=false) (ks:=[.mk t0 y0 n0 d0 k0,.mk t1 y1 n1 x k1]) (i:=1) rfl
 refine fnK_semX (A:=rwX [(28,6,.res (.fptr (itF t0 y0 n0 (toBytes d0) (itAs k0)) 0)),(28,11,.res (.fptr (itF t1 y1 n1 (toBytes x) (itAs k1)) 0)),(28,14,.res (.str x))]) base0 aidJ_ok (fnLs_of (LsOk.no rfl)) (closed_wi o hM hN rfl hC _ _) ?_
 rw[atA_F]
 show fnK _ _ _ _ _ [_,_,.agg (.str s::I 0::itF t y n (toBytes d) (itAs [.mk t0 y0 n0 d0 k0,.mk t1 y1 n1 x k1]))] _ _ _
 rw[rw_lnk0]
 refine ⟨g0,g1,conv_str x,oblB_of (fits_l o _ _ _ _ _) (end_ob hM (.closed _ hN) (Frz.row (es:=[lkA ⟨n0,x⟩]) rfl rfl rfl rfl (fun e he=> ?_) rfl) (.closed _ hC) (closed_obF o (M:= .fsl false ms) (N:= .fsl false ns) (L:= .fsl false _) (C:= .fsl false cs) hM hN rfl hC))⟩
 simp only[List.mem_cons,List.not_mem_nil,or_false] at he
 subst he;exact ⟨rfl,rfl⟩
theorem w_lnk1 (hM:closedAll ms=true) (hN:closedAll ns=true) (hC:closedAll cs=true) (u0:Lk) (x:List UInt8) (t0 y0 n0 t1 y1 n1:Int) (d0:List UInt8) (k0 k1:List It):SC 81 [.agg (obF o (.fsl false ms) (.fsl false ns) (.fsl false [lkA u0]) (.fsl false cs)),rrA .lnk,atA ⟨s,.ofNat 1,.mk t y n d [.mk t0 y0 n0 d0 k0,.mk t1 y1 n1 x k1]⟩] (.agg (obF o (.fsl false ms) (.fsl false ns) (.fsl false [lkA u0,lkA ⟨n0,x⟩]) (.fsl false cs))):=by
 have g0:=idxI (f:=false) (ks:=[.mk t0 y0 n0 d0 k0,.mk t1 y1 n1 x k1]) (i:=0) rfl
 have g1:=idxI (f:=false) (ks:=[.mk t0 y0 n0 d0 k0,.mk t1 y1 n1 x k1]) (i:=1) rfl
 refine fnK_semX (A:=rwX [(28,6,.res (.fptr (itF t0 y0 n0 (toBytes d0) (itAs k0)) 0)),(28,11,.res (.fptr (itF t1 y1 n1 (toBytes x) (itAs k1)) 0)),(28,14,.res (.str x))]) base0 aidJ_ok (fnLs_of (LsOk.no rfl)) (closed_wi o hM hN rfl hC _ _) ?_
 rw[atA_F]
 show fnK _ _ _ _ _ [_,_,.agg (.str s::I 1::itF t y n (toBytes d) (itAs [.mk t0 y0 n0 d0 k0,.mk t1 y1 n1 x k1]))] _ _ _
 rw[rw_lnk1]
 refine ⟨g0,g1,conv_str x,oblB_of (fits_l o _ _ _ _ _) (end_ob hM (.closed _ hN) (Frz.row (es:=[lkA u0,lkA ⟨n0,x⟩]) rfl rfl rfl rfl (fun e he=> ?_) rfl) (.closed _ hC) (closed_obF o (M:= .fsl false ms) (N:= .fsl false ns) (L:= .fsl false _) (C:= .fsl false cs) hM hN rfl hC))⟩
 simp only[List.mem_cons,List.not_mem_nil,or_false] at he
 rcases he with rfl|rfl<;>exact ⟨rfl,rfl⟩
theorem w_lnk2 (hM:closedAll ms=true) (hN:closedAll ns=true) (hC:closedAll cs=true) (u0 u1:Lk) (x:List UInt8) (t0 y0 n0 t1 y1 n1:Int) (d0:List UInt8) (k0 k1:List It):SC 81 [.agg (obF o (.fsl false ms) (.fsl false ns) (.fsl false [lkA u0,lkA u1]) (.fsl false cs)),rrA .lnk,atA ⟨s,.ofNat 2,.mk t y n d [.mk t0 y0 n0 d0 k0,.mk t1 y1 n1 x k1]⟩] (.agg (obF o (.fsl false ms) (.fsl false ns) (.fsl false [lkA u0,lkA u1,lkA ⟨n0,x⟩]) (.fsl false cs))):=by
 have g0:=idxI (f:=false) (ks:=[.mk t0 y0 n0 d0 k0,.mk t1 y1 n1 x k1]) (i:=0) rfl
 have g1:=idxI (f:=false) (ks:=[.mk t0 y0 n0 d0 k0,.mk t1 y1 n1 x k1]) (i:=1) rfl
 refine fnK_semX (A:=rwX [(28,6,.res (.fptr (itF t0 y0 n0 (toBytes d0) (itAs k0)) 0)),(28,11,.res (.fptr (itF t1 y1 n1 (toBytes x) (itAs k1)) 0)),(28,14,.res (.str x))]) base0 aidJ_ok (fnLs_of (LsOk.no rfl)) (closed_wi o hM hN rfl hC _ _) ?_
 rw[atA_F]
 show fnK _ _ _ _ _ [_,_,.agg (.str s::I 2::itF t y n (toBytes d) (itAs [.mk t0 y0 n0 d0 k0,.mk t1 y1 n1 x k1]))] _ _ _
 rw[rw_lnk2]
 refine ⟨g0,g1,conv_str x,oblB_of (fits_l o _ _ _ _ _) (end_ob hM (.closed _ hN) (Frz.row (es:=[lkA u0,lkA u1,lkA ⟨n0,x⟩]) rfl rfl rfl rfl (fun e he=> ?_) rfl) (.closed _ hC) (closed_obF o (M:= .fsl false ms) (N:= .fsl false ns) (L:= .fsl false _) (C:= .fsl false cs) hM hN rfl hC))⟩
 simp only[List.mem_cons,List.not_mem_nil,or_false] at he
 rcases he with rfl|rfl|rfl<;>exact ⟨rfl,rfl⟩
theorem w_lnk3 (hM:closedAll ms=true) (hN:closedAll ns=true) (hC:closedAll cs=true) (u0 u1 u2:Lk) (x:List UInt8) (t0 y0 n0 t1 y1 n1:Int) (d0:List UInt8) (k0 k1:List It):SC 81 [.agg (obF o (.fsl false ms) (.fsl false ns) (.fsl false [lkA u0,lkA u1,lkA u2]) (.fsl false cs)),rrA .lnk,atA ⟨s,.ofNat 3,.mk t y n d [.mk t0 y0 n0 d0 k0,.mk t1 y1 n1 x k1]⟩] (.agg (obF o (.fsl false ms) (.fsl false ns) (.fsl false [lkA u0,lkA u1,lkA u2,lkA ⟨n0,x⟩]) (.fsl false cs))):=by
 have g0:=idxI (f:=false) (ks:=[.mk t0 y0 n0 d0 k0,.mk t1 y1 n1 x k1]) (i:=0) rfl
 have g1:=idxI (f:=false) (ks:=[.mk t0 y0 n0 d0 k0,.mk t1 y1 n1 x k1]) (i:=1) rfl
 refine fnK_semX (A:=rwX [(28,6,.res (.fptr (itF t0 y0 n0 (toBytes d0) (itAs k0)) 0)),(28,11,.res (.fptr (itF t1 y1 n1 (toBytes x) (itAs k1)) 0)),(28,14,.res (.str x))]) base0 aidJ_ok (fnLs_of (LsOk.no rfl)) (closed_wi o hM hN rfl hC _ _) ?_
 rw[atA_F]
 show fnK _ _ _ _ _ [_,_,.agg (.str s::I 3::itF t y n (toBytes d) (itAs [.mk t0 y0 n0 d0 k0,.mk t1 y1 n1 x k1]))] _ _ _
 rw[rw_lnk3]
 refine ⟨g0,g1,conv_str x,oblB_of (fits_l o _ _ _ _ _) (end_ob hM (.closed _ hN) (Frz.row (es:=[lkA u0,lkA u1,lkA u2,lkA ⟨n0,x⟩]) rfl rfl rfl rfl (fun e he=> ?_) rfl) (.closed _ hC) (closed_obF o (M:= .fsl false ms) (N:= .fsl false ns) (L:= .fsl false _) (C:= .fsl false cs) hM hN rfl hC))⟩
 simp only[List.mem_cons,List.not_mem_nil,or_false] at he
 rcases he with rfl|rfl|rfl|rfl<;>exact ⟨rfl,rfl⟩
theorem w_lnk4 (hM:closedAll ms=true) (hN:closedAll ns=true) (hC:closedAll cs=true) (u0 u1 u2 u3:Lk) (x:List UInt8) (t0 y0 n0 t1 y1 n1:Int) (d0:List UInt8) (k0 k1:List It):SC 81 [.agg (obF o (.fsl false ms) (.fsl false ns) (.fsl false [lkA u0,lkA u1,lkA u2,lkA u3]) (.fsl false cs)),rrA .lnk,atA ⟨s,.ofNat 4,.mk t y n d [.mk t0 y0 n0 d0 k0,.mk t1 y1 n1 x k1]⟩] (.agg (obF o (.fsl false ms) (.fsl false ns) (.fsl false [lkA u0,lkA u1,lkA u2,lkA u3,lkA ⟨n0,x⟩]) (.fsl false cs))):=by
 have g0:=idxI (f:=false) (ks:=[.mk t0 y0 n0 d0 k0,.mk t1 y1 n1 x k1]) (i:=0) rfl
 have g1:=idxI (f:=false) (ks:=[.mk t0 y0 n0 d0 k0,.mk t1 y1 n1 x k1]) (i:=1) rfl
 refine fnK_semX (A:=rwX [(28,6,.res (.fptr (itF t0 y0 n0 (toBytes d0) (itAs k0)) 0)),(28,11,.res (.fptr (itF t1 y1 n1 (toBytes x) (itAs k1)) 0)),(28,14,.res (.str x))]) base0 aidJ_ok (fnLs_of (LsOk.no rfl)) (closed_wi o hM hN rfl hC _ _) ?_
 rw[atA_F]
 show fnK _ _ _ _ _ [_,_,.agg (.str s::I 4::itF t y n (toBytes d) (itAs [.mk t0 y0 n0 d0 k0,.mk t1 y1 n1 x k1]))] _ _ _
 rw[rw_lnk4]
 refine ⟨g0,g1,conv_str x,oblB_of (fits_l o _ _ _ _ _) (end_ob hM (.closed _ hN) (Frz.row (es:=[lkA u0,lkA u1,lkA u2,lkA u3,lkA ⟨n0,x⟩]) rfl rfl rfl rfl (fun e he=> ?_) rfl) (.closed _ hC) (closed_obF o (M:= .fsl false ms) (N:= .fsl false ns) (L:= .fsl false _) (C:= .fsl false cs) hM hN rfl hC))⟩
 simp only[List.mem_cons,List.not_mem_nil,or_false] at he
 rcases he with rfl|rfl|rfl|rfl|rfl<;>exact ⟨rfl,rfl⟩
theorem w_lnk5 (hM:closedAll ms=true) (hN:closedAll ns=true) (hC:closedAll cs=true) (u0 u1 u2 u3 u4:Lk) (x:List UInt8) (t0 y0 n0 t1 y1 n1:Int) (d0:List UInt8) (k0 k1:List It):SC 81 [.agg (obF o (.fsl false ms) (.fsl false ns) (.fsl false [lkA u0,lkA u1,lkA u2,lkA u3,lkA u4]) (.fsl false cs)),rrA .lnk,atA ⟨s,.ofNat 5,.mk t y n d [.mk t0 y0 n0 d0 k0,.mk t1 y1 n1 x k1]⟩] (.agg (obF o (.fsl false ms) (.fsl false ns) (.fsl false [lkA u0,lkA u1,lkA u2,lkA u3,lkA u4,lkA ⟨n0,x⟩]) (.fsl false cs))):=by
 have g0:=idxI (f:=false) (ks:=[.mk t0 y0 n0 d0 k0,.mk t1 y1 n1 x k1]) (i:=0) rfl
 have g1:=idxI (f:=false) (ks:=[.mk t0 y0 n0 d0 k0,.mk t1 y1 n1 x k1]) (i:=1) rfl
 refine fnK_semX (A:=rwX [(28,6,.res (.fptr (itF t0 y0 n0 (toBytes d0) (itAs k0)) 0)),(28,11,.res (.fptr (itF t1 y1 n1 (toBytes x) (itAs k1)) 0)),(28,14,.res (.str x))]) base0 aidJ_ok (fnLs_of (LsOk.no rfl)) (closed_wi o hM hN rfl hC _ _) ?_
 rw[atA_F]
 show fnK _ _ _ _ _ [_,_,.agg (.str s::I 5::itF t y n (toBytes d) (itAs [.mk t0 y0 n0 d0 k0,.mk t1 y1 n1 x k1]))] _ _ _
 rw[rw_lnk5]
 refine ⟨g0,g1,conv_str x,oblB_of (fits_l o _ _ _ _ _) (end_ob hM (.closed _ hN) (Frz.row (es:=[lkA u0,lkA u1,lkA u2,lkA u3,lkA u4,lkA ⟨n0,x⟩]) rfl rfl rfl rfl (fun e he=> ?_) rfl) (.closed _ hC) (closed_obF o (M:= .fsl false ms) (N:= .fsl false ns) (L:= .fsl false _) (C:= .fsl false cs) hM hN rfl hC))⟩
 simp only[List.mem_cons,List.not_mem_nil,or_false] at he
 rcases he with rfl|rfl|rfl|rfl|rfl|rfl<;>exact ⟨rfl,rfl⟩
theorem w_lnk6 (hM:closedAll ms=true) (hN:closedAll ns=true) (hC:closedAll cs=true) (u0 u1 u2 u3 u4 u5:Lk) (x:List UInt8) (t0 y0 n0 t1 y1 n1:Int) (d0:List UInt8) (k0 k1:List It):SC 81 [.agg (obF o (.fsl false ms) (.fsl false ns) (.fsl false [lkA u0,lkA u1,lkA u2,lkA u3,lkA u4,lkA u5]) (.fsl false cs)),rrA .lnk,atA ⟨s,.ofNat 6,.mk t y n d [.mk t0 y0 n0 d0 k0,.mk t1 y1 n1 x k1]⟩] (.agg (obF o (.fsl false ms) (.fsl false ns) (.fsl false [lkA u0,lkA u1,lkA u2,lkA u3,lkA u4,lkA u5,lkA ⟨n0,x⟩]) (.fsl false cs))):=by
 have g0:=idxI (f:=false) (ks:=[.mk t0 y0 n0 d0 k0,.mk t1 y1 n1 x k1]) (i:=0) rfl
 have g1:=idxI (f:=false) (ks:=[.mk t0 y0 n0 d0 k0,.mk t1 y1 n1 x k1]) (i:=1) rfl
 refine fnK_semX (A:=rwX [(28,6,.res (.fptr (itF t0 y0 n0 (toBytes d0) (itAs k0)) 0)),(28,11,.res (.fptr (itF t1 y1 n1 (toBytes x) (itAs k1)) 0)),(28,14,.res (.str x))]) base0 aidJ_ok (fnLs_of (LsOk.no rfl)) (closed_wi o hM hN rfl hC _ _) ?_
 rw[atA_F]
 show fnK _ _ _ _ _ [_,_,.agg (.str s::I 6::itF t y n (toBytes d) (itAs [.mk t0 y0 n0 d0 k0,.mk t1 y1 n1 x k1]))] _ _ _
 rw[rw_lnk6]
 refine ⟨g0,g1,conv_str x,oblB_of (fits_l o _ _ _ _ _) (end_ob hM (.closed _ hN) (Frz.row (es:=[lkA u0,lkA u1,lkA u2,lkA u3,lkA u4,lkA u5,lkA ⟨n0,x⟩]) rfl rfl rfl rfl (fun e he=> ?_) rfl) (.closed _ hC) (closed_obF o (M:= .fsl false ms) (N:= .fsl false ns) (L:= .fsl false _) (C:= .fsl false cs) hM hN rfl hC))⟩
 simp only[List.mem_cons,List.not_mem_nil,or_false] at he
 rcases he with rfl|rfl|rfl|rfl|rfl|rfl|rfl<;>exact ⟨rfl,rfl⟩
theorem w_lnk7 (hM:closedAll ms=true) (hN:closedAll ns=true) (hC:closedAll cs=true) (u0 u1 u2 u3 u4 u5 u6:Lk) (x:List UInt8) (t0 y0 n0 t1 y1 n1:Int) (d0:List UInt8) (k0 k1:List It):SC 81 [.agg (obF o (.fsl false ms) (.fsl false ns) (.fsl false [lkA u0,lkA u1,lkA u2,lkA u3,lkA u4,lkA u5,lkA u6]) (.fsl false cs)),rrA .lnk,atA ⟨s,.ofNat 7,.mk t y n d [.mk t0 y0 n0 d0 k0,.mk t1 y1 n1 x k1]⟩] (.agg (obF o (.fsl false ms) (.fsl false ns) (.fsl false [lkA u0,lkA u1,lkA u2,lkA u3,lkA u4,lkA u5,lkA u6,lkA ⟨n0,x⟩]) (.fsl false cs))):=by
 have g0:=idxI (f:=false) (ks:=[.mk t0 y0 n0 d0 k0,.mk t1 y1 n1 x k1]) (i:=0) rfl
 have g1:=idxI (f:=false) (ks:=[.mk t0 y0 n0 d0 k0,.mk t1 y1 n1 x k1]) (i:=1) rfl
 refine fnK_semX (A:=rwX [(28,6,.res (.fptr (itF t0 y0 n0 (toBytes d0) (itAs k0)) 0)),(28,11,.res (.fptr (itF t1 y1 n1 (toBytes x) (itAs k1)) 0)),(28,14,.res (.str x))]) base0 aidJ_ok (fnLs_of (LsOk.no rfl)) (closed_wi o hM hN rfl hC _ _) ?_
 rw[atA_F]
 show fnK _ _ _ _ _ [_,_,.agg (.str s::I 7::itF t y n (toBytes d) (itAs [.mk t0 y0 n0 d0 k0,.mk t1 y1 n1 x k1]))] _ _ _
 rw[rw_lnk7]
 refine ⟨g0,g1,conv_str x,oblB_of (fits_l o _ _ _ _ _) (end_ob hM (.closed _ hN) (Frz.row (es:=[lkA u0,lkA u1,lkA u2,lkA u3,lkA u4,lkA u5,lkA u6,lkA ⟨n0,x⟩]) rfl rfl rfl rfl (fun e he=> ?_) rfl) (.closed _ hC) (closed_obF o (M:= .fsl false ms) (N:= .fsl false ns) (L:= .fsl false _) (C:= .fsl false cs) hM hN rfl hC))⟩
 simp only[List.mem_cons,List.not_mem_nil,or_false] at he
 rcases he with rfl|rfl|rfl|rfl|rfl|rfl|rfl|rfl<;>exact ⟨rfl,rfl⟩
theorem w_lnk (hM:closedAll ms=true) (hN:closedAll ns=true) (hC:closedAll cs=true) (x:List UInt8) (t0 y0 n0 t1 y1 n1:Int) (d0:List UInt8) (k0 k1:List It):∀l:List Lk,l.length<8→SC 81 [.agg (obF o (.fsl false ms) (.fsl false ns) (.fsl false (l.map lkA)) (.fsl false cs)),rrA .lnk,atA ⟨s,.ofNat l.length,.mk t y n d [.mk t0 y0 n0 d0 k0,.mk t1 y1 n1 x k1]⟩] (.agg (obF o (.fsl false ms) (.fsl false ns) (.fsl false ((l++[(⟨n0,x⟩:Lk)]).map lkA)) (.fsl false cs)))
 |[],_=>w_lnk0 hM hN hC x t0 y0 n0 t1 y1 n1 d0 k0 k1
 |[u0],_=>w_lnk1 hM hN hC u0 x t0 y0 n0 t1 y1 n1 d0 k0 k1
 |[u0,u1],_=>w_lnk2 hM hN hC u0 u1 x t0 y0 n0 t1 y1 n1 d0 k0 k1
 |[u0,u1,u2],_=>w_lnk3 hM hN hC u0 u1 u2 x t0 y0 n0 t1 y1 n1 d0 k0 k1
 |[u0,u1,u2,u3],_=>w_lnk4 hM hN hC u0 u1 u2 u3 x t0 y0 n0 t1 y1 n1 d0 k0 k1
 |[u0,u1,u2,u3,u4],_=>w_lnk5 hM hN hC u0 u1 u2 u3 u4 x t0 y0 n0 t1 y1 n1 d0 k0 k1
 |[u0,u1,u2,u3,u4,u5],_=>w_lnk6 hM hN hC u0 u1 u2 u3 u4 u5 x t0 y0 n0 t1 y1 n1 d0 k0 k1
 |[u0,u1,u2,u3,u4,u5,u6],_=>w_lnk7 hM hN hC u0 u1 u2 u3 u4 u5 u6 x t0 y0 n0 t1 y1 n1 d0 k0 k1
 |_::_::_::_::_::_::_::_::_,h=>absurd h (by simp)
end
theorem cnt_take (s:List UInt8) (l:List Cu) (i:Nat):cntC s (l.take i)≤cntC s l:=((List.take_sublist i l).filter _).length_le
theorem part_nm {l:List Cu} {j:Nat} {x:Cu} (h:l[j]? =some x):partA Tryz.prog 9 (flat (l.map cuA)) (0+j*2+0)=some (.str x.name):=by
  simp only[partA,inT,Nat.zero_add,Nat.add_zero]
  exact get l j x h
 where
  get :∀ (l:List Cu) (j:Nat) (x:Cu),l[j]? =some x→getN (flat (l.map cuA)) (j*2)=some (.str x.name)
    |[],_,_,h=>by simp at h
    | a::r,0,x,h=>by
      simp at h;subst h
      rfl
    | a::r,j+1,x,h=>by
      have ih:=get r j x (by simpa using h)
      rw[show (j+1)*2=j*2+1+1 by omega]
      exact ih
section
variable {o:Ob} {ms ns ls:List AV} {s s':List UInt8} {t y n:Int} {d:List UInt8} {ks:List It} {Q:AExit→St→Prop}
theorem see_rr (s:List UInt8):closedAll (rrC (.cus s))=true:=rfl
theorem wx_run {C:List Cu} (hb:C.length≤1000) (hM:closedAll ms=true) (hN:closedAll ns=true) (hL:closedAll ls=true)
  (hq:Q (.exit 1) (wxV (.ofNat (cntC s C)) (.ofNat C.length) C.length (obF o (.fsl false ms) (.fsl false ns) (.fsl false ls) (.rsl true 1 0 C.length 2)) (flat (C.map cuA)) (rrC (.cus s)) (.str s'::I (.ofNat (cntC s C))::itF t y n (toBytes d) (itAs ks)) (itF t y n (toBytes d) (itAs ks))).st):
  ∀m i:Nat,i+m=C.length→ALp Tryz.prog opts0.glob 0 (lpCode Tryz.prog 81 6) (wxV (.ofNat (cntC s (C.take i))) (.ofNat i) C.length (obF o (.fsl false ms) (.fsl false ns) (.fsl false ls) (.rsl true 1 0 C.length 2)) (flat (C.map cuA)) (rrC (.cus s)) (.str s'::I (.ofNat (cntC s C))::itF t y n (toBytes d) (itAs ks)) (itF t y n (toBytes d) (itAs ks))).st Q:=by
 have hes:=closed_fcu C
 have hA:closedAll (.str s'::I (.ofNat (cntC s C))::itF t y n (toBytes d) (itAs ks))=true:=by
  have:=closed_atA ⟨s',.ofNat (cntC s C),.mk t y n d ks⟩
  exact this
 have hT:closedAll (itF t y n (toBytes d) (itAs ks))=true:=by
  have:=closed_it (.mk t y n d ks)
  exact this
 have hR:RenR [(0,0),(1,1),(2,2),(3,3),(4,4),(5,5)] (obF o (.fsl false ms) (.fsl false ns) (.fsl false ls) (.rsl true 1 0 C.length 2)) (obF o (.fsl false ms) (.fsl false ns) (.fsl false ls) (.rsl true 1 0 C.length 2)):=renR_ob (o:=o) hM (.same _ hN) (.same _ hL) (.rsl _ _ _ _ _ _ rfl)
 intro m
 induction m with
 |zero=>
  intro i hi
  rw[Nat.add_zero] at hi
  subst hi
  rw[List.take_of_length_le (Nat.le_refl _)]
  refine ALp.round (A:=rwX [(7,5,.ld (.str [])),(7,8,.res (.bool false))]) (V1:=wxV (.ofNat (cntC s C)) 0 C.length [] (flat (C.map cuA)) (rrC (.cus s)) (.str s'::I (.ofNat (cntC s C))::itF t y n (toBytes d) (itAs ks)) (itF t y n (toBytes d) (itAs ks))) (V2:=wxV (.ofNat (cntC s C)) 0 C.length [] (flat (C.map cuA)) (rrC (.cus s)) (.str s'::I (.ofNat (cntC s C))::itF t y n (toBytes d) (itAs ks)) (itF t y n (toBytes d) (itAs ks))) (F:=wxV (.ofNat (cntC s C)) (.ofNat C.length) C.length (obF o (.fsl false ms) (.fsl false ns) (.fsl false ls) (.rsl true 1 0 C.length 2)) (flat (C.map cuA)) (rrC (.cus s)) (.str s'::I (.ofNat (cntC s C))::itF t y n (toBytes d) (itAs ks)) (itF t y n (toBytes d) (itAs ks))) (lk:=[(0,0),(1,1),(2,2),(3,3),(4,4),(5,5)]) (lk':=[(0,0),(1,1),(2,2),(3,3),(4,4),(5,5)]) base0 aidJ_ok (LsOk.no rfl) .refl ?_
  rw[wx_n (_c':=0)]
  exact mtB_of (fun e=>(ltE e).elim) fun _=>⟨⟨⟨⟨rfl,rfl⟩,⟨rfl,rfl⟩,trivial⟩,⟨⟨rfl,rfl⟩,⟨rfl,rfl⟩,⟨rfl,rfl⟩,⟨rfl,rfl⟩,⟨rfl,rfl⟩,trivial⟩,hR,⟨rfl,hes⟩,⟨rfl,see_rr s⟩,⟨rfl,hA⟩,⟨rfl,hT⟩,⟨rfl,rfl⟩,trivial⟩,hq⟩
 | succ m ih=>
  intro i hi
  have hlt:i<C.length:=by omega
  have g:=List.getElem?_eq_getElem hlt
  have ih:=ih (i+1) (by omega)
  have hle:=cnt_take s C (i+1)
  have hcl:=cnt_le s (C.take i)
  have htl:(C.take i).length≤C.length:=List.length_take_le' i C
  rw[take_snoc g,cntC_snoc] at ih hle
  revert g ih hle
  generalize C[i]=x
  revert hcl
  generalize cntC s (C.take i)=c
  intro hcl g ih hle
  have hp:=part_nm g
  have hob:(nonneg (Int.ofNat i)&&((Int.ofNat i).toNat.blt C.length&&true))=true:=by
   simp only[nonneg,Bool.true_and,Bool.and_true]
   exact blt_iff.2 hlt
  have he:=eqlS (.tmp 29) (.tmp 31) x.name s
  cases hx:beqBytes x.name s with
  |false=>
   rw[hx] at ih he
   rw[Nat.add_zero] at ih
   refine ALp.round (A:=rwX [(7,5,.ld (.str x.name)),(7,8,.res (.bool false))]) (V1:=wxV (.ofNat c) (.ofNat (i+1)) C.length (obF o (.fsl false ms) (.fsl false ns) (.fsl false ls) (.rsl true 1 0 C.length 2)) (flat (C.map cuA)) (rrC (.cus s)) (.str s'::I (.ofNat (cntC s C))::itF t y n (toBytes d) (itAs ks)) (itF t y n (toBytes d) (itAs ks))) (V2:=wxV (.ofNat c) (.ofNat (i+1)) C.length (obF o (.fsl false ms) (.fsl false ns) (.fsl false ls) (.rsl true 1 0 C.length 2)) (flat (C.map cuA)) (rrC (.cus s)) (.str s'::I (.ofNat (cntC s C))::itF t y n (toBytes d) (itAs ks)) (itF t y n (toBytes d) (itAs ks))) (F:=wxV (.ofNat c) (.ofNat i) C.length (obF o (.fsl false ms) (.fsl false ns) (.fsl false ls) (.rsl true 1 0 C.length 2)) (flat (C.map cuA)) (rrC (.cus s)) (.str s'::I (.ofNat (cntC s C))::itF t y n (toBytes d) (itAs ks)) (itF t y n (toBytes d) (itAs ks))) (lk:=[(0,0),(1,1),(2,2),(3,3),(4,4),(5,5)]) (lk':=[(0,0),(1,1),(2,2),(3,3),(4,4),(5,5)]) base0 aidJ_ok (LsOk.no rfl) .refl ?_
   rw[wx_n (_c':=0),wrN (by omega)]
   exact mtB_of (fun _=>oblB_of hob ⟨hp,he,⟨⟨⟨rfl,rfl⟩,⟨rfl,rfl⟩,trivial⟩,⟨⟨rfl,rfl⟩,⟨rfl,rfl⟩,⟨rfl,rfl⟩,⟨rfl,rfl⟩,⟨rfl,rfl⟩,trivial⟩,hR,⟨rfl,hes⟩,⟨rfl,see_rr s⟩,⟨rfl,hA⟩,⟨rfl,hT⟩,⟨rfl,rfl⟩,trivial⟩,ih⟩) fun e=>absurd e (lt_no hlt)
  |true=>
   rw[hx] at ih he hle
   have hle:c+1≤cntC s C:=hle
   have hi2:=eqlI (.tmp 33) (.tmp 35) (.ofNat c) (.ofNat (cntC s C))
   rw[beqInt_false.2 (by simp only[Int.ofNat_eq_natCast];omega)] at hi2
   refine ALp.round (A:=rwX [(7,5,.ld (.str x.name)),(7,8,.res (.bool true)),(8,3,.res (.bool false))]) (V1:=wxV (.ofNat (c+1)) (.ofNat (i+1)) C.length (obF o (.fsl false ms) (.fsl false ns) (.fsl false ls) (.rsl true 1 0 C.length 2)) (flat (C.map cuA)) (rrC (.cus s)) (.str s'::I (.ofNat (cntC s C))::itF t y n (toBytes d) (itAs ks)) (itF t y n (toBytes d) (itAs ks))) (V2:=wxV (.ofNat (c+1)) (.ofNat (i+1)) C.length (obF o (.fsl false ms) (.fsl false ns) (.fsl false ls) (.rsl true 1 0 C.length 2)) (flat (C.map cuA)) (rrC (.cus s)) (.str s'::I (.ofNat (cntC s C))::itF t y n (toBytes d) (itAs ks)) (itF t y n (toBytes d) (itAs ks))) (F:=wxV (.ofNat c) (.ofNat i) C.length (obF o (.fsl false ms) (.fsl false ns) (.fsl false ls) (.rsl true 1 0 C.length 2)) (flat (C.map cuA)) (rrC (.cus s)) (.str s'::I (.ofNat (cntC s C))::itF t y n (toBytes d) (itAs ks)) (itF t y n (toBytes d) (itAs ks))) (lk:=[(0,0),(1,1),(2,2),(3,3),(4,4),(5,5)]) (lk':=[(0,0),(1,1),(2,2),(3,3),(4,4),(5,5)]) base0 aidJ_ok (LsOk.no rfl) .refl ?_
   rw[wx_y,wrN (p:=i) (by omega),wrN (p:=c) (by omega)]
   exact mtB_of (fun _=>oblB_of hob ⟨hp,he,hi2,⟨⟨⟨rfl,rfl⟩,⟨rfl,rfl⟩,trivial⟩,⟨⟨rfl,rfl⟩,⟨rfl,rfl⟩,⟨rfl,rfl⟩,⟨rfl,rfl⟩,⟨rfl,rfl⟩,trivial⟩,hR,⟨rfl,hes⟩,⟨rfl,see_rr s⟩,⟨rfl,hA⟩,⟨rfl,hT⟩,⟨rfl,rfl⟩,trivial⟩,ih⟩) fun e=>absurd e (lt_no hlt)
end
end Go.Proofs.YtjhggnebkfpgcaaGreatDoor
namespace Go.Proofs.YtjhggnebkfpgcaaGreatDoor
open Go Go.RowKit
open Go.Proofs.Abs
theorem putL_end {α:Type} (l:List α) (x:α):putL l l.length x=l++[x]:=by
 simp[putL]
theorem place_end (o:Ob) (s:List UInt8):placeAt o s (placesL s o.cust 0).length=o.cust.length:=by
 simp[placeAt]
theorem there_many {o:Ob} {k:Kd} (h:manyK k=true):thereK o k=(getK o k).length:=by
 rw[thereK,h]
 match getK o k with
 |[]=>rfl
 |[_]=>rfl
 |_::_::_=>rfl
end Go.Proofs.YtjhggnebkfpgcaaGreatDoor
namespace Go.Proofs.YtjhggnebkfpgcaaGreatDoor
set_option maxRecDepth 20000
open Go Go.RowKit
open Go.Proofs.Abs
section
variable {o:Ob} {ms ns ls:List AV} {s s':List UInt8} {t y n:Int} {d:List UInt8} {ks:List It}
theorem wx_at:loopsAt (fnCode Tryz.prog 81) 6=[lpCode Tryz.prog 81 6]:=by kernel_rfl
theorem wy_sound {c:Int} {_R _A _T:List AV} {Q:AExit→St→Prop} {st:St} (hM:closedAll ms=true) (hN:closedAll ns=true) (hL:closedAll ls=true) (h:wyL (obF o (.fsl false ms) (.fsl false ns) (.fsl false ls) (.fsl true [])) (rrC (.cus s)) (.str s'::I c::itF t y n (toBytes d) (itAs ks)) (itF t y n (toBytes d) (itAs ks)) st Q):AWp Tryz.prog opts0.glob 0 (.loop (lpCode Tryz.prog 81 6)) st Q:=by
 have hA:closedAll (.str s'::I c::itF t y n (toBytes d) (itAs ks))=true:=by
  have:=closed_atA ⟨s',c,.mk t y n d ks⟩
  exact this
 have hT:closedAll (itF t y n (toBytes d) (itAs ks))=true:=by
  have:=closed_it (.mk t y n d ks)
  exact this
 have hR:RenR [(0,0),(1,1),(2,2),(3,3),(4,4)] (obF o (.fsl false ms) (.fsl false ns) (.fsl false ls) (.fsl true [])) (obF o (.fsl false ms) (.fsl false ns) (.fsl false ls) (.fsl true [])):=renR_ob (o:=o) hM (.same _ hN) (.same _ hL) (.same _ rfl)
 refine .seen base0.glob h.1 ?_
 refine ALp.round (A:=rwX []) (V1:=wyV 0 0 (obF o (.fsl false ms) (.fsl false ns) (.fsl false ls) (.fsl true [])) (rrC (.cus s)) (.str s'::I c::itF t y n (toBytes d) (itAs ks)) (itF t y n (toBytes d) (itAs ks))) (V2:=wyV 0 0 (obF o (.fsl false ms) (.fsl false ns) (.fsl false ls) (.fsl true [])) (rrC (.cus s)) (.str s'::I c::itF t y n (toBytes d) (itAs ks)) (itF t y n (toBytes d) (itAs ks))) (F:=wyV 0 0 (obF o (.fsl false ms) (.fsl false ns) (.fsl false ls) (.fsl true [])) (rrC (.cus s)) (.str s'::I c::itF t y n (toBytes d) (itAs ks)) (itF t y n (toBytes d) (itAs ks))) (lk:=[]) (lk':=[(0,0),(1,1),(2,2),(3,3),(4,4)]) base0 aidJ_ok (LsOk.no rfl) .refl ?_
 rw[wy_r]
 exact ⟨⟨⟨⟨rfl,rfl⟩,⟨rfl,rfl⟩,trivial⟩,⟨⟨rfl,rfl⟩,⟨rfl,rfl⟩,⟨rfl,rfl⟩,⟨rfl,rfl⟩,⟨rfl,rfl⟩,trivial⟩,hR,⟨rfl,see_rr s⟩,⟨rfl,hA⟩,⟨rfl,hT⟩,⟨rfl,rfl⟩,trivial⟩,h.2⟩
theorem name_e {s:List UInt8} (h:NameOk (.cus s)) {j:Kd} (hj:j∈kinds) (p q:Operand):binA Tryz.prog .eql 9 p q (.str s) (.str (nameK j))=some (.bool false):=by
 rw[eqlS,name_no h hj]
-- CASES
theorem w_cus0 (hn:NameOk (.cus s)) (hM:closedAll ms=true) (hN:closedAll ns=true) (hL:closedAll ls=true) (x:List UInt8):SC 81 [.agg (obF o (.fsl false ms) (.fsl false ns) (.fsl false ls) (.fsl false [])),rrA (.cus s),atA ⟨s',.ofNat (cntC s []),.mk t y n x ks⟩] (.agg (obF o (.fsl false ms) (.fsl false ns) (.fsl false ls) (.fsl false [cuA ⟨s,x⟩]))):=by
 have hA:closedAll (.str s'::I 0::itF t y n (toBytes x) (itAs ks))=true:=by
  have:=closed_atA ⟨s',0,.mk t y n x ks⟩
  exact this
 have hT:closedAll (itF t y n (toBytes x) (itAs ks))=true:=by
  have:=closed_it (.mk t y n x ks)
  exact this
 refine fnK_semX (A:=aidJ [(13,2,.res (.bool false)),(18,2,.res (.bool false)),(20,2,.res (.bool false)),(22,2,.res (.bool false)),(24,2,.res (.bool false)),(29,2,.res (.bool false)),(12,6,.res (.str x))] [(6,wyL (obF o (.fsl false ms) (.fsl false ns) (.fsl false ls) (.fsl true [])) (rrC (.cus s)) (.str s'::I 0::itF t y n (toBytes x) (itAs ks)) (itF t y n (toBytes x) (itAs ks)))] noSem [] []) base0 aidJ_ok
  (fnLs_of (LsOk.at1 rfl wx_at fun st Q hs=>wy_sound (s:=s) (s':=s') (_R:=[]) (_A:=[]) (_T:=[]) hM hN hL hs)) (closed_wi o hM hN hL rfl _ _) ?_
 rw[atA_F]
 show fnK _ _ _ _ _ [_,_,.agg (.str s'::I 0::itF t y n (toBytes x) (itAs ks))] _ _ _
 rw[rw_cus0 (_c:=0)]
 refine ⟨name_e hn (j:= .nam) (by simp[kinds]) _ _,name_e hn (j:= .alg) (by simp[kinds]) _ _,name_e hn (j:= .len) (by simp[kinds]) _ _,name_e hn (j:= .mask) (by simp[kinds]) _ _,name_e hn (j:= .lnk) (by simp[kinds]) _ _,name_e hn (j:= .lim) (by simp[kinds]) _ _,⟨⟨⟨rfl,rfl⟩,⟨rfl,rfl⟩,trivial⟩,⟨⟨rfl,rfl⟩,⟨rfl,rfl⟩,⟨rfl,rfl⟩,⟨rfl,rfl⟩,⟨rfl,rfl⟩,trivial⟩,renR_ob (o:=o) hM (.same _ hN) (.same _ hL) (.same _ rfl),⟨rfl,see_rr s⟩,⟨rfl,hA⟩,⟨rfl,hT⟩,⟨rfl,rfl⟩,trivial⟩,conv_str x,oblB_of (fits_c o _ _ _ _ _) (end_ob hM (.closed _ hN) (.closed _ hL) (Frz.row (es:=[cuA ⟨s,x⟩]) rfl rfl rfl rfl (fun e he=> ?_) rfl) (closed_obF o (M:= .fsl false ms) (N:= .fsl false ns) (L:= .fsl false ls) (C:= .fsl false _) hM hN hL rfl))⟩
 simp only[List.mem_cons,List.not_mem_nil,or_false] at he
 subst he;exact ⟨rfl,rfl⟩
theorem w_cus1 (hn:NameOk (.cus s)) (hM:closedAll ms=true) (hN:closedAll ns=true) (hL:closedAll ls=true) (u0:Cu) (x:List UInt8):SC 81 [.agg (obF o (.fsl false ms) (.fsl false ns) (.fsl false ls) (.fsl false [cuA u0])),rrA (.cus s),atA ⟨s',.ofNat (cntC s [u0]),.mk t y n x ks⟩] (.agg (obF o (.fsl false ms) (.fsl false ns) (.fsl false ls) (.fsl false [cuA u0,cuA ⟨s,x⟩]))):=by
 have hA:closedAll (.str s'::I (.ofNat (cntC s [u0]))::itF t y n (toBytes x) (itAs ks))=true:=by
  have:=closed_atA ⟨s',(.ofNat (cntC s [u0])),.mk t y n x ks⟩
  exact this
 have hT:closedAll (itF t y n (toBytes x) (itAs ks))=true:=by
  have:=closed_it (.mk t y n x ks)
  exact this
 refine fnK_semX (A:=aidJ [(13,2,.res (.bool false)),(18,2,.res (.bool false)),(20,2,.res (.bool false)),(22,2,.res (.bool false)),(24,2,.res (.bool false)),(29,2,.res (.bool false)),(12,6,.res (.str x))] [(6,wxL (.ofNat (cntC s [u0])) 1 (obF o (.fsl false ms) (.fsl false ns) (.fsl false ls) (.rsl true 1 0 1 2)) (flat [cuA u0]) (rrC (.cus s)) (.str s'::I (.ofNat (cntC s [u0]))::itF t y n (toBytes x) (itAs ks)) (itF t y n (toBytes x) (itAs ks)))] noSem [] []) base0 aidJ_ok
  (fnLs_of (LsOk.at1 rfl wx_at fun st Q hs=> .seen base0.glob hs.1 (wx_run (C:=[u0]) (by simp) hM hN hL hs.2 1 0 rfl))) (closed_wi o hM hN hL rfl _ _) ?_
 rw[atA_F]
 show fnK _ _ _ _ _ [_,_,.agg (.str s'::I (.ofNat (cntC s [u0]))::itF t y n (toBytes x) (itAs ks))] _ _ _
 rw[rw_cus1]
 refine ⟨name_e hn (j:= .nam) (by simp[kinds]) _ _,name_e hn (j:= .alg) (by simp[kinds]) _ _,name_e hn (j:= .len) (by simp[kinds]) _ _,name_e hn (j:= .mask) (by simp[kinds]) _ _,name_e hn (j:= .lnk) (by simp[kinds]) _ _,name_e hn (j:= .lim) (by simp[kinds]) _ _,⟨⟨⟨rfl,rfl⟩,⟨rfl,rfl⟩,trivial⟩,⟨⟨rfl,rfl⟩,⟨rfl,rfl⟩,⟨rfl,rfl⟩,⟨rfl,rfl⟩,⟨rfl,rfl⟩,trivial⟩,renR_ob (o:=o) hM (.same _ hN) (.same _ hL) (.rsl _ _ _ _ _ _ rfl),⟨rfl,rfl⟩,⟨rfl,see_rr s⟩,⟨rfl,hA⟩,⟨rfl,hT⟩,⟨rfl,rfl⟩,trivial⟩,conv_str x,oblB_of (fits_c o _ _ _ _ _) (end_ob hM (.closed _ hN) (.closed _ hL) (Frz.row (es:=[cuA u0,cuA ⟨s,x⟩]) rfl rfl rfl rfl (fun e he=> ?_) rfl) (closed_obF o (M:= .fsl false ms) (N:= .fsl false ns) (L:= .fsl false ls) (C:= .fsl false _) hM hN hL rfl))⟩
 simp only[List.mem_cons,List.not_mem_nil,or_false] at he
 rcases he with rfl|rfl<;>exact ⟨rfl,rfl⟩
theorem w_cus2 (hn:NameOk (.cus s)) (hM:closedAll ms=true) (hN:closedAll ns=true) (hL:closedAll ls=true) (u0 u1:Cu) (x:List UInt8):SC 81 [.agg (obF o (.fsl false ms) (.fsl false ns) (.fsl false ls) (.fsl false [cuA u0,cuA u1])),rrA (.cus s),atA ⟨s',.ofNat (cntC s [u0,u1]),.mk t y n x ks⟩] (.agg (obF o (.fsl false ms) (.fsl false ns) (.fsl false ls) (.fsl false [cuA u0,cuA u1,cuA ⟨s,x⟩]))):=by
 have hA:closedAll (.str s'::I (.ofNat (cntC s [u0,u1]))::itF t y n (toBytes x) (itAs ks))=true:=by
  have:=closed_atA ⟨s',(.ofNat (cntC s [u0,u1])),.mk t y n x ks⟩
  exact this
 have hT:closedAll (itF t y n (toBytes x) (itAs ks))=true:=by
  have:=closed_it (.mk t y n x ks)
  exact this
 refine fnK_semX (A:=aidJ [(13,2,.res (.bool false)),(18,2,.res (.bool false)),(20,2,.res (.bool false)),(22,2,.res (.bool false)),(24,2,.res (.bool false)),(29,2,.res (.bool false)),(12,6,.res (.str x))] [(6,wxL (.ofNat (cntC s [u0,u1])) 2 (obF o (.fsl false ms) (.fsl false ns) (.fsl false ls) (.rsl true 1 0 2 2)) (flat [cuA u0,cuA u1]) (rrC (.cus s)) (.str s'::I (.ofNat (cntC s [u0,u1]))::itF t y n (toBytes x) (itAs ks)) (itF t y n (toBytes x) (itAs ks)))] noSem [] []) base0 aidJ_ok
  (fnLs_of (LsOk.at1 rfl wx_at fun st Q hs=> .seen base0.glob hs.1 (wx_run (C:=[u0,u1]) (by simp) hM hN hL hs.2 2 0 rfl))) (closed_wi o hM hN hL rfl _ _) ?_
 rw[atA_F]
 show fnK _ _ _ _ _ [_,_,.agg (.str s'::I (.ofNat (cntC s [u0,u1]))::itF t y n (toBytes x) (itAs ks))] _ _ _
 rw[rw_cus2]
 refine ⟨name_e hn (j:= .nam) (by simp[kinds]) _ _,name_e hn (j:= .alg) (by simp[kinds]) _ _,name_e hn (j:= .len) (by simp[kinds]) _ _,name_e hn (j:= .mask) (by simp[kinds]) _ _,name_e hn (j:= .lnk) (by simp[kinds]) _ _,name_e hn (j:= .lim) (by simp[kinds]) _ _,⟨⟨⟨rfl,rfl⟩,⟨rfl,rfl⟩,trivial⟩,⟨⟨rfl,rfl⟩,⟨rfl,rfl⟩,⟨rfl,rfl⟩,⟨rfl,rfl⟩,⟨rfl,rfl⟩,trivial⟩,renR_ob (o:=o) hM (.same _ hN) (.same _ hL) (.rsl _ _ _ _ _ _ rfl),⟨rfl,rfl⟩,⟨rfl,see_rr s⟩,⟨rfl,hA⟩,⟨rfl,hT⟩,⟨rfl,rfl⟩,trivial⟩,conv_str x,oblB_of (fits_c o _ _ _ _ _) (end_ob hM (.closed _ hN) (.closed _ hL) (Frz.row (es:=[cuA u0,cuA u1,cuA ⟨s,x⟩]) rfl rfl rfl rfl (fun e he=> ?_) rfl) (closed_obF o (M:= .fsl false ms) (N:= .fsl false ns) (L:= .fsl false ls) (C:= .fsl false _) hM hN hL rfl))⟩
 simp only[List.mem_cons,List.not_mem_nil,or_false] at he
 rcases he with rfl|rfl|rfl<;>exact ⟨rfl,rfl⟩
theorem w_cus3 (hn:NameOk (.cus s)) (hM:closedAll ms=true) (hN:closedAll ns=true) (hL:closedAll ls=true) (u0 u1 u2:Cu) (x:List UInt8):SC 81 [.agg (obF o (.fsl false ms) (.fsl false ns) (.fsl false ls) (.fsl false [cuA u0,cuA u1,cuA u2])),rrA (.cus s),atA ⟨s',.ofNat (cntC s [u0,u1,u2]),.mk t y n x ks⟩] (.agg (obF o (.fsl false ms) (.fsl false ns) (.fsl false ls) (.fsl false [cuA u0,cuA u1,cuA u2,cuA ⟨s,x⟩]))):=by
 have hA:closedAll (.str s'::I (.ofNat (cntC s [u0,u1,u2]))::itF t y n (toBytes x) (itAs ks))=true:=by
  have:=closed_atA ⟨s',(.ofNat (cntC s [u0,u1,u2])),.mk t y n x ks⟩
  exact this
 have hT:closedAll (itF t y n (toBytes x) (itAs ks))=true:=by
  have:=closed_it (.mk t y n x ks)
  exact this
 refine fnK_semX (A:=aidJ [(13,2,.res (.bool false)),(18,2,.res (.bool false)),(20,2,.res (.bool false)),(22,2,.res (.bool false)),(24,2,.res (.bool false)),(29,2,.res (.bool false)),(12,6,.res (.str x))] [(6,wxL (.ofNat (cntC s [u0,u1,u2])) 3 (obF o (.fsl false ms) (.fsl false ns) (.fsl false ls) (.rsl true 1 0 3 2)) (flat [cuA u0,cuA u1,cuA u2]) (rrC (.cus s)) (.str s'::I (.ofNat (cntC s [u0,u1,u2]))::itF t y n (toBytes x) (itAs ks)) (itF t y n (toBytes x) (itAs ks)))] noSem [] []) base0 aidJ_ok
  (fnLs_of (LsOk.at1 rfl wx_at fun st Q hs=> .seen base0.glob hs.1 (wx_run (C:=[u0,u1,u2]) (by simp) hM hN hL hs.2 3 0 rfl))) (closed_wi o hM hN hL rfl _ _) ?_
 rw[atA_F]
 show fnK _ _ _ _ _ [_,_,.agg (.str s'::I (.ofNat (cntC s [u0,u1,u2]))::itF t y n (toBytes x) (itAs ks))] _ _ _
 rw[rw_cus3]
 refine ⟨name_e hn (j:= .nam) (by simp[kinds]) _ _,name_e hn (j:= .alg) (by simp[kinds]) _ _,name_e hn (j:= .len) (by simp[kinds]) _ _,name_e hn (j:= .mask) (by simp[kinds]) _ _,name_e hn (j:= .lnk) (by simp[kinds]) _ _,name_e hn (j:= .lim) (by simp[kinds]) _ _,⟨⟨⟨rfl,rfl⟩,⟨rfl,rfl⟩,trivial⟩,⟨⟨rfl,rfl⟩,⟨rfl,rfl⟩,⟨rfl,rfl⟩,⟨rfl,rfl⟩,⟨rfl,rfl⟩,trivial⟩,renR_ob (o:=o) hM (.same _ hN) (.same _ hL) (.rsl _ _ _ _ _ _ rfl),⟨rfl,rfl⟩,⟨rfl,see_rr s⟩,⟨rfl,hA⟩,⟨rfl,hT⟩,⟨rfl,rfl⟩,trivial⟩,conv_str x,oblB_of (fits_c o _ _ _ _ _) (end_ob hM (.closed _ hN) (.closed _ hL) (Frz.row (es:=[cuA u0,cuA u1,cuA u2,cuA ⟨s,x⟩]) rfl rfl rfl rfl (fun e he=> ?_) rfl) (closed_obF o (M:= .fsl false ms) (N:= .fsl false ns) (L:= .fsl false ls) (C:= .fsl false _) hM hN hL rfl))⟩
 simp only[List.mem_cons,List.not_mem_nil,or_false] at he
 rcases he with rfl|rfl|rfl|rfl<;>exact ⟨rfl,rfl⟩
theorem w_cus4 (hn:NameOk (.cus s)) (hM:closedAll ms=true) (hN:closedAll ns=true) (hL:closedAll ls=true) (u0 u1 u2 u3:Cu) (x:List UInt8):SC 81 [.agg (obF o (.fsl false ms) (.fsl false ns) (.fsl false ls) (.fsl false [cuA u0,cuA u1,cuA u2,cuA u3])),rrA (.cus s),atA ⟨s',.ofNat (cntC s [u0,u1,u2,u3]),.mk t y n x ks⟩] (.agg (obF o (.fsl false ms) (.fsl false ns) (.fsl false ls) (.fsl false [cuA u0,cuA u1,cuA u2,cuA u3,cuA ⟨s,x⟩]))):=by
 have hA:closedAll (.str s'::I (.ofNat (cntC s [u0,u1,u2,u3]))::itF t y n (toBytes x) (itAs ks))=true:=by
  have:=closed_atA ⟨s',(.ofNat (cntC s [u0,u1,u2,u3])),.mk t y n x ks⟩
  exact this
 have hT:closedAll (itF t y n (toBytes x) (itAs ks))=true:=by
  have:=closed_it (.mk t y n x ks)
  exact this
 refine fnK_semX (A:=aidJ [(13,2,.res (.bool false)),(18,2,.res (.bool false)),(20,2,.res (.bool false)),(22,2,.res (.bool false)),(24,2,.res (.bool false)),(29,2,.res (.bool false)),(12,6,.res (.str x))] [(6,wxL (.ofNat (cntC s [u0,u1,u2,u3])) 4 (obF o (.fsl false ms) (.fsl false ns) (.fsl false ls) (.rsl true 1 0 4 2)) (flat [cuA u0,cuA u1,cuA u2,cuA u3]) (rrC (.cus s)) (.str s'::I (.ofNat (cntC s [u0,u1,u2,u3]))::itF t y n (toBytes x) (itAs ks)) (itF t y n (toBytes x) (itAs ks)))] noSem [] []) base0 aidJ_ok
  (fnLs_of (LsOk.at1 rfl wx_at fun st Q hs=> .seen base0.glob hs.1 (wx_run (C:=[u0,u1,u2,u3]) (by simp) hM hN hL hs.2 4 0 rfl))) (closed_wi o hM hN hL rfl _ _) ?_
 rw[atA_F]
 show fnK _ _ _ _ _ [_,_,.agg (.str s'::I (.ofNat (cntC s [u0,u1,u2,u3]))::itF t y n (toBytes x) (itAs ks))] _ _ _
 rw[rw_cus4]
 refine ⟨name_e hn (j:= .nam) (by simp[kinds]) _ _,name_e hn (j:= .alg) (by simp[kinds]) _ _,name_e hn (j:= .len) (by simp[kinds]) _ _,name_e hn (j:= .mask) (by simp[kinds]) _ _,name_e hn (j:= .lnk) (by simp[kinds]) _ _,name_e hn (j:= .lim) (by simp[kinds]) _ _,⟨⟨⟨rfl,rfl⟩,⟨rfl,rfl⟩,trivial⟩,⟨⟨rfl,rfl⟩,⟨rfl,rfl⟩,⟨rfl,rfl⟩,⟨rfl,rfl⟩,⟨rfl,rfl⟩,trivial⟩,renR_ob (o:=o) hM (.same _ hN) (.same _ hL) (.rsl _ _ _ _ _ _ rfl),⟨rfl,rfl⟩,⟨rfl,see_rr s⟩,⟨rfl,hA⟩,⟨rfl,hT⟩,⟨rfl,rfl⟩,trivial⟩,conv_str x,oblB_of (fits_c o _ _ _ _ _) (end_ob hM (.closed _ hN) (.closed _ hL) (Frz.row (es:=[cuA u0,cuA u1,cuA u2,cuA u3,cuA ⟨s,x⟩]) rfl rfl rfl rfl (fun e he=> ?_) rfl) (closed_obF o (M:= .fsl false ms) (N:= .fsl false ns) (L:= .fsl false ls) (C:= .fsl false _) hM hN hL rfl))⟩
 simp only[List.mem_cons,List.not_mem_nil,or_false] at he
 rcases he with rfl|rfl|rfl|rfl|rfl<;>exact ⟨rfl,rfl⟩
theorem w_cus5 (hn:NameOk (.cus s)) (hM:closedAll ms=true) (hN:closedAll ns=true) (hL:closedAll ls=true) (u0 u1 u2 u3 u4:Cu) (x:List UInt8):SC 81 [.agg (obF o (.fsl false ms) (.fsl false ns) (.fsl false ls) (.fsl false [cuA u0,cuA u1,cuA u2,cuA u3,cuA u4])),rrA (.cus s),atA ⟨s',.ofNat (cntC s [u0,u1,u2,u3,u4]),.mk t y n x ks⟩] (.agg (obF o (.fsl false ms) (.fsl false ns) (.fsl false ls) (.fsl false [cuA u0,cuA u1,cuA u2,cuA u3,cuA u4,cuA ⟨s,x⟩]))):=by
 have hA:closedAll (.str s'::I (.ofNat (cntC s [u0,u1,u2,u3,u4]))::itF t y n (toBytes x) (itAs ks))=true:=by
  have:=closed_atA ⟨s',(.ofNat (cntC s [u0,u1,u2,u3,u4])),.mk t y n x ks⟩
  exact this
 have hT:closedAll (itF t y n (toBytes x) (itAs ks))=true:=by
  have:=closed_it (.mk t y n x ks)
  exact this
 refine fnK_semX (A:=aidJ [(13,2,.res (.bool false)),(18,2,.res (.bool false)),(20,2,.res (.bool false)),(22,2,.res (.bool false)),(24,2,.res (.bool false)),(29,2,.res (.bool false)),(12,6,.res (.str x))] [(6,wxL (.ofNat (cntC s [u0,u1,u2,u3,u4])) 5 (obF o (.fsl false ms) (.fsl false ns) (.fsl false ls) (.rsl true 1 0 5 2)) (flat [cuA u0,cuA u1,cuA u2,cuA u3,cuA u4]) (rrC (.cus s)) (.str s'::I (.ofNat (cntC s [u0,u1,u2,u3,u4]))::itF t y n (toBytes x) (itAs ks)) (itF t y n (toBytes x) (itAs ks)))] noSem [] []) base0 aidJ_ok
  (fnLs_of (LsOk.at1 rfl wx_at fun st Q hs=> .seen base0.glob hs.1 (wx_run (C:=[u0,u1,u2,u3,u4]) (by simp) hM hN hL hs.2 5 0 rfl))) (closed_wi o hM hN hL rfl _ _) ?_
 rw[atA_F]
 show fnK _ _ _ _ _ [_,_,.agg (.str s'::I (.ofNat (cntC s [u0,u1,u2,u3,u4]))::itF t y n (toBytes x) (itAs ks))] _ _ _
 rw[rw_cus5]
 refine ⟨name_e hn (j:= .nam) (by simp[kinds]) _ _,name_e hn (j:= .alg) (by simp[kinds]) _ _,name_e hn (j:= .len) (by simp[kinds]) _ _,name_e hn (j:= .mask) (by simp[kinds]) _ _,name_e hn (j:= .lnk) (by simp[kinds]) _ _,name_e hn (j:= .lim) (by simp[kinds]) _ _,⟨⟨⟨rfl,rfl⟩,⟨rfl,rfl⟩,trivial⟩,⟨⟨rfl,rfl⟩,⟨rfl,rfl⟩,⟨rfl,rfl⟩,⟨rfl,rfl⟩,⟨rfl,rfl⟩,trivial⟩,renR_ob (o:=o) hM (.same _ hN) (.same _ hL) (.rsl _ _ _ _ _ _ rfl),⟨rfl,rfl⟩,⟨rfl,see_rr s⟩,⟨rfl,hA⟩,⟨rfl,hT⟩,⟨rfl,rfl⟩,trivial⟩,conv_str x,oblB_of (fits_c o _ _ _ _ _) (end_ob hM (.closed _ hN) (.closed _ hL) (Frz.row (es:=[cuA u0,cuA u1,cuA u2,cuA u3,cuA u4,cuA ⟨s,x⟩]) rfl rfl rfl rfl (fun e he=> ?_) rfl) (closed_obF o (M:= .fsl false ms) (N:= .fsl false ns) (L:= .fsl false ls) (C:= .fsl false _) hM hN hL rfl))⟩
 simp only[List.mem_cons,List.not_mem_nil,or_false] at he
 rcases he with rfl|rfl|rfl|rfl|rfl|rfl<;>exact ⟨rfl,rfl⟩
theorem w_cus (hn:NameOk (.cus s)) (hM:closedAll ms=true) (hN:closedAll ns=true) (hL:closedAll ls=true) (x:List UInt8):∀l:List Cu,l.length<6→SC 81 [.agg (obF o (.fsl false ms) (.fsl false ns) (.fsl false ls) (.fsl false (l.map cuA))),rrA (.cus s),atA ⟨s',.ofNat (cntC s l),.mk t y n x ks⟩] (.agg (obF o (.fsl false ms) (.fsl false ns) (.fsl false ls) (.fsl false ((l++[(⟨s,x⟩:Cu)]).map cuA))))
 |[],_=>w_cus0 hn hM hN hL x
 |[u0],_=>w_cus1 hn hM hN hL u0 x
 |[u0,u1],_=>w_cus2 hn hM hN hL u0 u1 x
 |[u0,u1,u2],_=>w_cus3 hn hM hN hL u0 u1 u2 x
 |[u0,u1,u2,u3],_=>w_cus4 hn hM hN hL u0 u1 u2 u3 x
 |[u0,u1,u2,u3,u4],_=>w_cus5 hn hM hN hL u0 u1 u2 u3 u4 x
 |_::_::_::_::_::_::_,h=>absurd h (by simp)
end
theorem rwith_sem {k:Kd} (hk:setK k=true) (hn:NameOk k) {o:Ob} (hr:roomK o k=true) {v:It} (hv:rightP v k=true) (s:List UInt8) {i:Int} (hi:manyK k=true→i= .ofNat (getK o k).length):
  SC 81 [obA o,rrA k,atA ⟨s,i,v⟩] (obA (putK o (getK o k).length v k)):=by
 have hM:=closed_mat o
 have hN:=closed_nam o
 have hL:=closed_lnk o
 have hC:=closed_cusA o
 unfold obA obC
 cases k with
 |alg=>
  obtain ⟨t,y,n,d,ks⟩:=v
  exact w_alg hM hN hL hC i
 |len=>
  obtain ⟨t,y,n,d,ks⟩:=v
  exact w_len hM hN hL hC i
 |mask=>
  obtain ⟨t,y,n,d,ks⟩:=v
  exact w_mask hM hN hL hC i
 | dat j=>
  obtain ⟨t,y,n,d,ks⟩:=v
  have hk4:j=1∨j=2∨j=3∨j=4:=by
   simp only[setK,setD,Bool.and_eq_true,Nat.ble_eq] at hk
   omega
  rcases hk4 with rfl|rfl|rfl|rfl
  ·exact w_dat1 hM hN hL hC i
  ·exact w_dat2 hM hN hL hC i
  ·exact w_dat3 hM hN hL hC i
  ·exact w_dat4 hM hN hL hC i
 |lim=>
  simp only[rightP,Bool.and_eq_true] at hv
  obtain ⟨t,y,n,d,ks⟩:=v
  have hl:=hv.2
  simp only[itK] at hl
  match ks,hl with
  |[⟨t0,y0,n0,d0,k0⟩,⟨t1,y1,n1,d1,k1⟩,⟨t2,y2,n2,d2,k2⟩],_=>exact w_lim hM hN hL hC i t0 y0 n0 t1 y1 n1 t2 y2 n2 d0 d1 d2 k0 k1 k2
 |nam=>
  obtain ⟨t,y,n,d,ks⟩:=v
  have hlen:(getK o .nam).length=o.names.length:=by simp[getK]
  rw[hi rfl,hlen]
  have h6:o.names.length<6:=blt_iff.1 hr
  have:=w_nam (o:=o) (s:=s) (t:=t) (y:=y) (n:=n) (ks:=ks) hM hL hC d o.names h6
  simp only[putK,putL_end,itD]
  exact this
 | lnk=>
  simp only[rightP,rightK,Bool.and_eq_true] at hv
  obtain ⟨t,y,n,d,ks⟩:=v
  have hl:=hv.2
  simp only[itK] at hl
  have hlen:(getK o .lnk).length=o.links.length:=by simp[getK]
  rw[hi rfl,hlen]
  have h8:o.links.length<8:=blt_iff.1 hr
  match ks,hl with
  |[⟨t0,y0,n0,d0,k0⟩,⟨t1,y1,n1,d1,k1⟩],_=>
   have:=w_lnk (o:=o) (s:=s) (t:=t) (y:=y) (n:=n) (d:=d) hM hN hC d1 t0 y0 n0 t1 y1 n1 d0 k0 k1 o.links h8
   simp only[putK,putL_end]
   exact this
 |cus c=>
  obtain ⟨t,y,n,d,ks⟩:=v
  have hlen:(getK o (.cus c)).length=cntC c o.cust:=by simp only[getK,List.length_map];rfl
  have hpl:=cus_len o c
  have h6:o.cust.length<6:=blt_iff.1 hr
  rw[hi rfl,hlen]
  have:=w_cus (o:=o) (s:=c) (s':=s) (t:=t) (y:=y) (n:=n) (ks:=ks) hn hM hN hL d o.cust h6
  rw[←hlen,hpl]
  rw[←hlen,hpl] at this
  simp only[putK,place_end,putL_end,itD]
  exact this
 |_=>cases hk
end Go.Proofs.YtjhggnebkfpgcaaGreatDoor
namespace Go.Proofs.YtjhggnebkfpgcaaGreatDoor
open Go Go.RowKit
open Go.Proofs.Abs
noncomputable section
def ryA (c0 c1:List AV) (Ls O':List AV) (th pl fu tw so:Bool):Aid:=aidJ [(8,13,.res (.fptr c0 0)),(8,19,.res (.fptr c1 0))] [] (manyF [(17,fun _=>some (.fsl false Ls)),(115,fun _=>some (.bool th)),(79,fun _=>some (.bool pl)),(116,fun _=>some (.bool fu)),(80,fun _=>some (.bool tw)),(81,fun _=>some (.agg O')),(49,fun _=>some (.bool so))]) [64] []
abbrev zx1 (C' L' M' N':AV) (p:Ob):=(fitsT Tryz.prog 33 (AV.agg (obF p M' N' L' C')) 37)
abbrev zx2:=(AV.tuple [AV.agg zL,I 7])
abbrev zx3 (D K:List AV) (i n t y:Int) (s:List UInt8):=[AV.str s,I i,I t,I y,I n,AV.fsl false D,AV.fsl false K]
theorem ry_t (nm ch st:List UInt8) (ty da:Int) (se:Bool) (s:List UInt8) (i t y n t0 y0 n0 t1 y1 n1:Int) (D K D0 K0 D1 K1 Ls:List AV) (o p:Ob) (M N L C M' N' L' C':AV) (th pl fu tw so:Bool) (Q:AV→Prop):fnK Tryz.prog opts0 40 (ryA (itF t0 y0 n0 D0 K0) (itF t1 y1 n1 D1 K1) Ls (obF p M' N' L' C') th pl fu tw so) 65 [.agg (obF o M N L C),.agg [.str nm,I ty,.bool true,.bool se,.str ch,.str st,I da],.agg (.str s::I i::itF t y n D K)] [] 0 (fun v _ _=>Q v)=
  (SC 17 [AV.agg (obF o M N L C),AV.str s] (AV.fsl false Ls)∧mtB (!beqInt i (Int.ofNat (lenN Ls))) (Q (AV.tuple [AV.agg zL,I 14])) (SC 79 [AV.agg [AV.str nm,I ty,AV.bool true,AV.bool se,AV.str ch,AV.str st,I da],AV.agg [I t,I y,I n,AV.fsl false D,AV.fsl false K]] (AV.bool pl)∧mtB (!pl) (Q zx2) (mtB (beqBytes nm [85,115,97,103,101,32,76,105,109,105,116,115]) (indexAddrA Tryz.prog 35 (AV.fsl false K) (I 0)=some (AV.fptr [I t0,I y0,I n0,AV.fsl false D0,AV.fsl false K0] 0)∧indexAddrA Tryz.prog 35 (AV.fsl false K) (I 1)=some (AV.fptr [I t1,I y1,I n1,AV.fsl false D1,AV.fsl false K1] 0)∧mtB (!beqInt n0 n1) (Q zx2) (SC 116 [AV.agg (obF o M N L C),AV.str s] (AV.bool fu)∧mtB fu (Q (AV.tuple [AV.agg zL,I 12])) (SC 80 [AV.agg (obF o M N L C),AV.agg (zx3 D K i n t y s),I (Int.negSucc 0)] (AV.bool tw)∧mtB tw (Q (AV.tuple [AV.agg zL,I 11])) (SC 81 [AV.agg (obF o M N L C),AV.agg [AV.str nm,I ty,AV.bool true,AV.bool se,AV.str ch,AV.str st,I da],AV.agg (zx3 D K i n t y s)] (AV.agg (obF p M' N' L' C'))∧oblB (zx1 C' L' M' N' p) (SC 49 [AV.agg (obF p M' N' L' C')] (AV.bool so)∧mtB (!so) (Q zx2) (oblB (zx1 C' L' M' N' p) (Q (AV.tuple [AV.agg (obF p M' N' L' C'),I 0])))))))) (SC 116 [AV.agg (obF o M N L C),AV.str s] (AV.bool fu)∧mtB fu (Q (AV.tuple [AV.agg zL,I 12])) (SC 80 [AV.agg (obF o M N L C),AV.agg (zx3 D K i n t y s),I (Int.negSucc 0)] (AV.bool tw)∧mtB tw (Q (AV.tuple [AV.agg zL,I 11])) (SC 81 [AV.agg (obF o M N L C),AV.agg [AV.str nm,I ty,AV.bool true,AV.bool se,AV.str ch,AV.str st,I da],AV.agg (zx3 D K i n t y s)] (AV.agg (obF p M' N' L' C'))∧oblB (zx1 C' L' M' N' p) (SC 49 [AV.agg (obF p M' N' L' C')] (AV.bool so)∧mtB (!so) (Q zx2) (oblB (zx1 C' L' M' N' p) (Q (AV.tuple [AV.agg (obF p M' N' L' C'),I 0])))))))))):=by kernel_rfl
theorem ry_f (nm ch st:List UInt8) (ty da:Int) (se:Bool) (s:List UInt8) (i t y n t0 y0 n0 t1 y1 n1:Int) (D K D0 K0 D1 K1 Ls:List AV) (o p:Ob) (M N L C M' N' L' C':AV) (th pl fu tw so:Bool) (Q:AV→Prop):fnK Tryz.prog opts0 40 (ryA (itF t0 y0 n0 D0 K0) (itF t1 y1 n1 D1 K1) Ls (obF p M' N' L' C') th pl fu tw so) 65 [.agg (obF o M N L C),.agg [.str nm,I ty,.bool false,.bool se,.str ch,.str st,I da],.agg (.str s::I i::itF t y n D K)] [] 0 (fun v _ _=>Q v)=
  (SC 17 [AV.agg (obF o M N L C),AV.str s] (AV.fsl false Ls)∧mtB (!beqInt i 0) (Q (AV.tuple [AV.agg zL,I 14])) (SC 115 [AV.agg (obF o M N L C),AV.str s] (AV.bool th)∧mtB th (Q (AV.tuple [AV.agg zL,I 11])) (SC 79 [AV.agg [AV.str nm,I ty,AV.bool false,AV.bool se,AV.str ch,AV.str st,I da],AV.agg [I t,I y,I n,AV.fsl false D,AV.fsl false K]] (AV.bool pl)∧mtB (!pl) (Q zx2) (mtB (beqBytes nm [85,115,97,103,101,32,76,105,109,105,116,115]) (indexAddrA Tryz.prog 35 (AV.fsl false K) (I 0)=some (AV.fptr [I t0,I y0,I n0,AV.fsl false D0,AV.fsl false K0] 0)∧indexAddrA Tryz.prog 35 (AV.fsl false K) (I 1)=some (AV.fptr [I t1,I y1,I n1,AV.fsl false D1,AV.fsl false K1] 0)∧mtB (!beqInt n0 n1) (Q zx2) (SC 81 [AV.agg (obF o M N L C),AV.agg [AV.str nm,I ty,AV.bool false,AV.bool se,AV.str ch,AV.str st,I da],AV.agg (zx3 D K i n t y s)] (AV.agg (obF p M' N' L' C'))∧oblB (zx1 C' L' M' N' p) (SC 49 [AV.agg (obF p M' N' L' C')] (AV.bool so)∧mtB (!so) (Q zx2) (oblB (zx1 C' L' M' N' p) (Q (AV.tuple [AV.agg (obF p M' N' L' C'),I 0])))))) (SC 81 [AV.agg (obF o M N L C),AV.agg [AV.str nm,I ty,AV.bool false,AV.bool se,AV.str ch,AV.str st,I da],AV.agg (zx3 D K i n t y s)] (AV.agg (obF p M' N' L' C'))∧oblB (zx1 C' L' M' N' p) (SC 49 [AV.agg (obF p M' N' L' C')] (AV.bool so)∧mtB (!so) (Q zx2) (oblB (zx1 C' L' M' N' p) (Q (AV.tuple [AV.agg (obF p M' N' L' C'),I 0]))))))))):=by kernel_rfl
def rzA (row:AV) (f:Bool) (O':List AV) (e:Int):Aid:=aidJ [] [] (manyF [(63,fun _=>some (.tuple [row,.bool f])),(65,fun _=>some (.tuple [.agg O',I e]))]) [64] []
theorem rz_fn (nm ch st:List UInt8) (ty da e:Int) (ma se f:Bool) (s:List UInt8) (i t y n:Int) (D K:List AV) (o p:Ob) (M N L C M' N' L' C':AV) (Q:AV→Prop):fnK Tryz.prog opts0 40 (rzA (.agg [.str nm,I ty,.bool ma,.bool se,.str ch,.str st,I da]) f (obF p M' N' L' C') e) 19 [.agg (obF o M N L C),.agg (.str s::I i::itF t y n D K)] [] 0 (fun v _ _=>Q v)=
  (SC 63 [AV.str s] (AV.tuple [AV.agg [AV.str nm,I ty,AV.bool ma,AV.bool se,AV.str ch,AV.str st,I da],AV.bool f])∧mtB (!f) (Q zx2) (mtB (!se) (Q zx2) (SC 65 [AV.agg (obF o M N L C),AV.agg [AV.str nm,I ty,AV.bool ma,AV.bool se,AV.str ch,AV.str st,I da],AV.agg (zx3 D K i n t y s)] (AV.tuple [AV.agg (obF p M' N' L' C'),I e])∧oblB (zx1 C' L' M' N' p) (Q (AV.tuple [AV.agg (obF p M' N' L' C'),I e]))))):=by kernel_rfl
end
end Go.Proofs.YtjhggnebkfpgcaaGreatDoor
namespace Go.Proofs.YtjhggnebkfpgcaaGreatDoor
set_option maxRecDepth 20000
open Go Go.RowKit
open Go.Proofs.Abs
def rrO:Option Kd→AV
 |some k=> .tuple [rrA k,.bool true]
 |none=> .tuple [rrZ,.bool false]
def findR (c:Bool) (s:List UInt8):Option Kd:=match findL s kinds with
 |some k=>some k
 |none=>match c with
  |true=>some (.cus s)
  |false=>none
theorem findR_eq {c:Bool} {s:List UInt8} (h:c=true→∀k∈kinds,nameK k≠s):findR c s=findK c s:=by
 cases c with
 |true=>rw[findR,findL_none (h rfl)];rfl
 |false=>
  rw[findR]
  show _=findL s kinds
  cases findL s kinds<;>rfl
theorem rfind_sem {c:Bool} {s:List UInt8} (hc:SC 114 [.str s] (.bool c)):SC 63 [.str s] (rrO (findR c s)):=by
 refine fnK_semE (A:=rfA c) base0 aidJ_ok (fnLs_of (LsOk.no rfl)) rfl ?_
 rw[rfind_fn]
 refine And.intro rrows_sem ?_
 simp only[findR]
 repeat' first|refine And.intro hc ?_|refine mtB_of (fun _=> ?_) (fun _=> ?_)
 all_goals
  simp only[kinds,findL,nameK,dateN, *]
  exact end_eq rfl rfl
theorem right_many {o:Ob} {k:Kd} {v:It} (h:manyK k=true):rightK o v k=rightP v k:=by cases k<;>first|rfl|cases h
theorem right_one {o:Ob} {k:Kd} {v:It} (h:k≠ .lim):rightK o v k=rightP v k:=by cases k<;>first|rfl|exact absurd rfl h
theorem put_idx {o:Ob} {k:Kd} (h:manyK k=false) (i j:Nat) (v:It):putK o i v k=putK o j v k:=by cases k<;>first|rfl|cases h
theorem twice_many {o:Ob} {k:Kd} {v:It} {b:Int} (h:manyK k=true):twiceK o k v b=twiceL v b (getK o k) 0:=by rw[twiceK,h,Bool.true_and]
theorem lim_many {k:Kd} (h:manyK k=true) (hn:NameOk k):beqBytes (nameK k) (nameK .lim)=false:=by
 cases k with
 |nam=>rfl
 |lnk=>rfl
 |cus s=>exact name_no hn (by simp[kinds])
 |_=>cases h
theorem laid_end {o:Ob} {k:Kd} {v:It} {j:Nat} {so:Bool} (h:soundB (putK o j v k)=so):(so=false→laidK o k j v=(zO,7))∧(so=true→laidK o k j v=(putK o j v k,0)):=by
 subst h
 unfold laidK
 exact ⟨fun e=>by rw[e],fun e=>by rw[e]⟩
section
variable {o:Ob} {k:Kd} {s:List UInt8}
theorem rlay_many (hof:SC 17 [obA o,.str s] (.fsl false ((tellL s (getK o k) 0).map atA))) (hs:s=nameK k) (hm:manyK k=true) (hk:setK k=true) (hn:NameOk k) (hg:OkG o k) (hcu:∀c,k= .cus c→SC 114 [.str c] (.bool true)) (i:Int) (v:It) (hv:txI v):
  SC 65 [obA o,rrA k,atA ⟨s,i,v⟩] (ansA (moreK o k ⟨s,i,v⟩)):=by
 have hcl:closedAll [obA o,rrA k,atA ⟨s,i,v⟩]=true:=closed_oc o (by simp[closedAll,closed_atA,closed_rr1])
 have hpl:=rplain_sem hk hn v hv
 have hfu:=rfull_sem (o:=o) hn hm hcu
 have htw:=rtwin_sem hof hg i v (-1)
 have hwi:=fun hr hv' hi=>rwith_sem hk hn (o:=o) hr (v:=v) hv' s (i:=i) hi
 have hso:=soundr_sem (putK o (getK o k).length v k)
 have hle:=laid_end (o:=o) (k:=k) (v:=v) (j:=(getK o k).length) rfl
 have hlm:=lim_many hm hn
 have hlen:lenN ((tellL s (getK o k) 0).map atA)=(getK o k).length:=by rw[lenN_eq,List.length_map,tell_length]
 have hfp:=fits_ob (putK o (getK o k).length v k)
 subst hs
 unfold moreK
 simp only[hm,there_many hm,right_many hm,twice_many hm,Bool.not_true,Bool.false_and]
 generalize putK o (getK o k).length v k=p at hwi hso hle hfp⊢
 obtain ⟨t,y,n,d,ks⟩:=v
 refine fnK_semE (A:=ryA (itF 0 0 0 [] []) (itF 0 0 0 [] []) ((tellL (nameK k) (getK o k) 0).map atA) (obC p) false (rightP (.mk t y n d ks) k) (!roomK o k) (twiceL (.mk t y n d ks) (-1) (getK o k) 0) (soundB p)) base0 aidJ_ok (fnLs_of (LsOk.no rfl)) hcl ?_
 rw[itA_F] at hpl
 rw[atA_F] at htw hwi⊢
 unfold obA at*
 unfold obC rrA rrC at*
 rw[hm] at hpl hwi⊢
 rw[ry_t,hlen]
 refine ⟨hof,mtB_of (fun e=> ?_) fun e=>⟨hpl,mtB_of (fun e2=> ?_) fun e2=>mF hlm ⟨hfu,mtB_of (fun e3=> ?_) fun e3=>⟨htw,mtB_of (fun e4=> ?_) fun e4=>⟨hwi ?_ ?_ ?_,oblB_of hfp ⟨hso,mtB_of (fun e5=> ?_) fun e5=>oblB_of hfp ?_⟩⟩⟩⟩⟩⟩
 ·rw[Bool.not_eq_true'] at e;rw[e];exact end_z 14
 ·rw[Bool.not_eq_false'] at e;rw[Bool.not_eq_true'] at e2;rw[e,e2];exact end_z 7
 ·rw[Bool.not_eq_false'] at e e2;rw[Bool.not_eq_true'] at e3;rw[e,e2,e3];exact end_z 12
 ·rw[Bool.not_eq_false'] at e e2 e3;rw[e,e2,e3,e4];exact end_z 11
 ·rw[Bool.not_eq_false'] at e3;exact e3
 ·rw[Bool.not_eq_false'] at e2;exact e2
 ·rw[Bool.not_eq_false'] at e;exact fun _=>beqInt_iff.1 e
 ·rw[Bool.not_eq_false'] at e e2 e3;rw[Bool.not_eq_true'] at e5;rw[e,e2,e3,e4];dsimp only;rw[hle.1 e5];exact end_z 7
 ·rw[Bool.not_eq_false'] at e e2 e3 e5;rw[e,e2,e3,e4];dsimp only;rw[hle.2 e5];exact end_o p 0
theorem rlay_one (hof:SC 17 [obA o,.str s] (.fsl false ((tellL s (getK o k) 0).map atA))) (hs:s=nameK k) (hm:manyK k=false) (hk:setK k=true) (hn:NameOk k) (i:Int) (v:It) (hv:txI v):
  SC 65 [obA o,rrA k,atA ⟨s,i,v⟩] (ansA (moreK o k ⟨s,i,v⟩)):=by
 have hcl:closedAll [obA o,rrA k,atA ⟨s,i,v⟩]=true:=closed_oc o (by simp[closedAll,closed_atA,closed_rr1])
 have hpl:=rplain_sem hk hn v hv
 have hth:=rthere_sem hof hs hm hk
 have hroom:roomK o k=true:=by cases k<;>first|rfl|cases hm
 have hwi:=fun hv'=>rwith_sem hk hn (o:=o) hroom (v:=v) hv' s (i:=i) (fun e=>by rw[hm] at e;cases e)
 rw[put_idx hm (getK o k).length 0] at hwi
 have hso:=soundr_sem (putK o 0 v k)
 have hle:=laid_end (o:=o) (k:=k) (v:=v) (j:=0) rfl
 have hfp:=fits_ob (putK o 0 v k)
 unfold moreK
 simp only[hm,hroom,twiceK,Bool.not_false,Bool.true_and,Bool.false_and]
 by_cases hk2:k= .lim
 ·subst hk2
  subst hs
  have hth0:ltInt 0 (.ofNat (thereK o .lim))=false→o.lh=false:=fun e=>by
   cases hl:o.lh with
   |false=>rfl
   | true=>
    have:thereK o .lim=1:=by
     show thereL false 1 (oneL o.lh (limI o))=1
     rw[hl];rfl
    rw[this] at e;cases e
  generalize putK o 0 v .lim=p at hwi hso hle hfp⊢
  simp only[rightK]
  simp only[rightP] at hpl hwi
  obtain ⟨t,y,n,d,ks⟩:=v
  simp only[itK] at hpl hwi⊢
  have hbad:liB ks=false→SC 65 [obA o,rrA .lim,atA ⟨nameK .lim,i,.mk t y n d ks⟩] (ansA (match beqInt i 0 with|false=>(zO,14)|true=>match ltInt 0 (.ofNat (thereK o .lim)) with|true=>(zO,11)|false=>match shapeI (.mk t y n d ks) 4325387 1&&(liB ks&&(o.lh||fullB ks)) with|false=>(zO,7)|true=>laidK o .lim 0 (.mk t y n d ks))):=fun hl=>by
   rw[hl] at hpl⊢
   rw[Bool.and_false] at hpl
   rw[Bool.false_and,Bool.and_false]
   refine fnK_semE (A:=ryA (itF 0 0 0 [] []) (itF 0 0 0 [] []) ((tellL (nameK .lim) (getK o .lim) 0).map atA) (obC p) (ltInt 0 (.ofNat (thereK o .lim))) false false false (soundB p)) base0 aidJ_ok (fnLs_of (LsOk.no rfl)) hcl ?_
   rw[itA_F] at hpl
   rw[atA_F]
   unfold obA at*
   unfold obC rrA rrC at*
   rw[show manyK .lim=false from rfl] at hpl⊢
   rw[ry_f]
   refine ⟨hof,mtB_of (fun e=> ?_) fun e=>⟨hth,mtB_of (fun e1=> ?_) fun e1=>⟨hpl,mT rfl ?_⟩⟩⟩
   ·rw[Bool.not_eq_true'] at e;rw[e];exact end_z 14
   ·rw[Bool.not_eq_false'] at e;rw[e,e1];exact end_z 11
   ·rw[Bool.not_eq_false'] at e;rw[e,e1];exact end_z 7
  match ks,hbad,hcl,hpl,hwi with
  | [⟨t0,y0,n0,d0,k0⟩,⟨t1,y1,n1,d1,k1⟩,⟨t2,y2,n2,d2,k2⟩],_,hcl,hpl,hwi=>
   have g0:=idxI (f:=false) (ks:=[.mk t0 y0 n0 d0 k0,.mk t1 y1 n1 d1 k1,.mk t2 y2 n2 d2 k2]) (i:=0) rfl
   have g1:=idxI (f:=false) (ks:=[.mk t0 y0 n0 d0 k0,.mk t1 y1 n1 d1 k1,.mk t2 y2 n2 d2 k2]) (i:=1) rfl
   have hfull:fullB [.mk t0 y0 n0 d0 k0,.mk t1 y1 n1 d1 k1,.mk t2 y2 n2 d2 k2]=beqInt n1 n0:=rfl
   rw[hfull]
   revert hpl hwi
   generalize (shapeI (.mk t y n d [.mk t0 y0 n0 d0 k0,.mk t1 y1 n1 d1 k1,.mk t2 y2 n2 d2 k2]) 4325387 1)=sh
   generalize liB [.mk t0 y0 n0 d0 k0,.mk t1 y1 n1 d1 k1,.mk t2 y2 n2 d2 k2]=li
   intro hpl hwi
   have hcomm:beqInt n0 n1=beqInt n1 n0:=by
    cases h1:beqInt n1 n0 with
    |true=>rw[beqInt_iff.1 h1];exact beqInt_iff.2 rfl
    |false=>exact beqInt_false.2 fun e=>beqInt_false.1 h1 e.symm
   refine fnK_semE (A:=ryA (itF t0 y0 n0 (toBytes d0) (itAs k0)) (itF t1 y1 n1 (toBytes d1) (itAs k1)) ((tellL (nameK .lim) (getK o .lim) 0).map atA) (obC p) (ltInt 0 (.ofNat (thereK o .lim))) (sh&&li) false false (soundB p)) base0 aidJ_ok (fnLs_of (LsOk.no rfl)) hcl ?_
   rw[itA_F] at hpl
   rw[atA_F] at hwi⊢
   unfold obA at*
   unfold obC rrA rrC at*
   rw[show manyK .lim=false from rfl] at hpl hwi⊢
   rw[ry_f]
   refine ⟨hof,mtB_of (fun e=> ?_) fun e=>⟨hth,mtB_of (fun e1=> ?_) fun e1=>⟨hpl,mtB_of (fun e2=> ?_) fun e2=>mT rfl ⟨g0,g1,mtB_of (fun e3=> ?_) fun e3=>⟨hwi ?_,oblB_of hfp ⟨hso,mtB_of (fun e5=> ?_) fun e5=>oblB_of hfp ?_⟩⟩⟩⟩⟩⟩
   ·rw[Bool.not_eq_true'] at e;rw[e];exact end_z 14
   ·rw[Bool.not_eq_false'] at e;rw[e,e1];exact end_z 11
   ·rw[Bool.not_eq_false'] at e;rw[Bool.not_eq_true'] at e2;rw[e,e1,hth0 e1,←Bool.and_assoc,e2];exact end_z 7
   ·rw[Bool.not_eq_false'] at e e2;rw[Bool.not_eq_true'] at e3;rw[e,e1,hth0 e1,←Bool.and_assoc,e2,←hcomm,e3];exact end_z 7
   ·rw[Bool.not_eq_false'] at e2;exact e2
   ·rw[Bool.not_eq_false'] at e e2 e3;rw[Bool.not_eq_true'] at e5;rw[e,e1,hth0 e1,←Bool.and_assoc,e2,←hcomm,e3];dsimp only[Bool.false_or,Bool.true_and];rw[hle.1 e5];exact end_z 7
   ·rw[Bool.not_eq_false'] at e e2 e3 e5;rw[e,e1,hth0 e1,←Bool.and_assoc,e2,←hcomm,e3];dsimp only[Bool.false_or,Bool.true_and];rw[hle.2 e5];exact end_o p 0
  |[],hbad,_,_,_=>exact hbad rfl
  |[_],hbad,_,_,_=>exact hbad rfl
  |[_,_],hbad,_,_,_=>exact hbad rfl
  |_::_::_::_::_,hbad,_,_,_=>exact hbad rfl
 ·have hlm:beqBytes (nameK k) (nameK .lim)=false:=by
   cases k with
   |lim=>exact absurd rfl hk2
   |alg=>rfl
   |len=>rfl
   |mask=>rfl
   | dat j=>
    have hk4:j=1∨j=2∨j=3∨j=4:=by
     simp only[setK,setD,Bool.and_eq_true,Nat.ble_eq] at hk
     omega
    rcases hk4 with rfl|rfl|rfl|rfl<;>rfl
   |nam=>cases hm
   |lnk=>cases hm
   |cus c=>cases hm
   |_=>cases hk
  subst hs
  rw[right_one hk2]
  generalize putK o 0 v k=p at hwi hso hle hfp⊢
  obtain ⟨t,y,n,d,ks⟩:=v
  refine fnK_semE (A:=ryA (itF 0 0 0 [] []) (itF 0 0 0 [] []) ((tellL (nameK k) (getK o k) 0).map atA) (obC p) (ltInt 0 (.ofNat (thereK o k))) (rightP (.mk t y n d ks) k) false false (soundB p)) base0 aidJ_ok (fnLs_of (LsOk.no rfl)) hcl ?_
  rw[itA_F] at hpl
  rw[atA_F] at hwi⊢
  unfold obA at*
  unfold obC rrA rrC at*
  rw[hm] at hpl hwi⊢
  rw[ry_f]
  refine ⟨hof,mtB_of (fun e=> ?_) fun e=>⟨hth,mtB_of (fun e1=> ?_) fun e1=>⟨hpl,mtB_of (fun e2=> ?_) fun e2=>mF hlm ⟨hwi ?_,oblB_of hfp ⟨hso,mtB_of (fun e5=> ?_) fun e5=>oblB_of hfp ?_⟩⟩⟩⟩⟩
  ·rw[Bool.not_eq_true'] at e;rw[e];exact end_z 14
  ·rw[Bool.not_eq_false'] at e;rw[e,e1];exact end_z 11
  ·rw[Bool.not_eq_false'] at e;rw[Bool.not_eq_true'] at e2;rw[e,e1,e2];exact end_z 7
  ·rw[Bool.not_eq_false'] at e2;exact e2
  ·rw[Bool.not_eq_false'] at e e2;rw[Bool.not_eq_true'] at e5;rw[e,e1,e2];dsimp only;rw[hle.1 e5];exact end_z 7
  ·rw[Bool.not_eq_false'] at e e2 e5;rw[e,e1,e2];dsimp only;rw[hle.2 e5];exact end_o p 0
end
theorem nameOk_of {c:Bool} {s:List UInt8} {k:Kd} (h:c=true→∀j∈kinds,nameK j≠s) (hk:findK c s=some k):NameOk k:=by
 intro c' e
 subst e
 cases c with
 |true=>
  have e:=Option.some.inj hk
  cases e
  exact h rfl
 |false=>
  have:=(findL_mem (show findL s kinds=some (.cus c') from hk)).1
  simp[kinds] at this
theorem cus_find {c:Bool} {s c':List UInt8} (hk:findK c s=some (.cus c')):c=true∧s=c':=by
 cases c with
 |true=>
  have e:=Option.some.inj hk
  cases e
  exact ⟨rfl,rfl⟩
 |false=>
  have:=(findL_mem (show findL s kinds=some (.cus c') from hk)).1
  simp[kinds] at this
theorem rset_sem {c:Bool} {o:Ob} (ho:FitO o) (hb:(allS o).length≤90000) {a:At} (hc:SC 114 [.str a.name] (.bool c)) (hcu:CusOk c a.name o) (hg:∀k,OkG o k) (ha:txI a.v):SC 19 [obA o,atA a] (ansA (setS c o a)):=by
 have hf:=rfind_sem hc
 rw[findR_eq hcu.t] at hf
 have hcl:=closed_oa o a (c:=[]) rfl
 have hof:=rof_sem ho hb a.name
 rw[of_all hcu] at hof
 unfold setS
 unfold ofS at hof
 cases hk:findK c a.name with
 |none=>
  rw[hk] at hf
  obtain ⟨s,i,⟨t,y,n,d,ks⟩⟩:=a
  rw[atA_F] at hcl⊢
  refine fnK_semE (A:=rzA rrZ false (obC o) 0) base0 aidJ_ok (fnLs_of (LsOk.no rfl)) hcl ?_
  unfold obA obC rrZ
  rw[rz_fn]
  exact ⟨hf,mT rfl (end_z 7)⟩
 | some k=>
  rw[hk] at hf hof
  dsimp only at hof⊢
  have hn:=nameOk_of hcu.t hk
  have hnm:=(find_kd hk).2
  obtain ⟨s,i,v⟩:=a
  simp only at hof hk hnm hc ha
  have hlay:setK k=true→SC 65 [obA o,rrA k,atA ⟨s,i,v⟩] (ansA (moreK o k ⟨s,i,v⟩)):=fun hs=>by
   cases hm:manyK k with
   | true=>exact rlay_many hof hnm.symm hm hs hn (hg k) (fun c' e=>by
     subst e
     obtain ⟨e1,e2⟩:=cus_find hk
     rw[e1,e2] at hc
     exact hc) i v ha
   |false=>exact rlay_one hof hnm.symm hm hs hn i v ha
  generalize moreK o k ⟨s,i,v⟩=la at hlay⊢
  obtain ⟨p,e'⟩:=la
  have hfp:=fits_ob p
  obtain ⟨t,y,n,d,ks⟩:=v
  rw[atA_F] at hcl hlay⊢
  refine fnK_semE (A:=rzA (rrA k) true (obC p) e') base0 aidJ_ok (fnLs_of (LsOk.no rfl)) hcl ?_
  unfold ansA obA at hlay
  unfold obA
  unfold obC rrA rrC at*
  rw[rz_fn]
  refine ⟨hf,mF rfl (mtB_of (fun e=> ?_) fun e=>⟨hlay (by simpa using e),oblB_of hfp ?_⟩)⟩
  ·rw[Bool.not_eq_true'] at e;rw[e];exact end_z 7
  ·rw[Bool.not_eq_false'] at e;rw[e];exact end_o p e'
end Go.Proofs.YtjhggnebkfpgcaaGreatDoor
namespace Go.Proofs.YtjhggnebkfpgcaaGreatDoor
open Go Go.RowKit
open Go.Proofs.Abs
noncomputable def optsB:Opts:={how:=fun f=>match memN [119,120,121,151,191,193,194] f with|true=> .fresh|false=>match memN [102,104,144,145,214,215] f with|true=> .keep|false=> .pure,summ:=fun _ _=>none,glob:=gl,lf:=100000}
theorem known_sem:SC 21 [] (.bool true):=
 sem_of_calls (O:=optsB) (n:=20) Tryz.mixed (fun _ _ _ h=>by cases h) noCall_ok' gl_closed fun id h nx=>pureT_ok (O:=optsB) (n:=19) (T:=[]) (F:=[]) rfl rfl (by kernel_rfl) trivial id h nx
theorem fits_obC (o:Ob):fitsT Tryz.prog 33 (.agg (obC o)) 37=true:=by kernel_rfl
noncomputable section
def ssV (i:Int) (Rs O:List AV):View:=⟨[(1,.fsl false Rs),(7,I i)],[(5,.ptr 0 0),(6,.ptr 1 0)],[(0,.cells O,.whole),(1,.cells O,.whole)],2,69⟩
def ssF:View:=⟨[],[],[],0,69⟩
def ssA (y:Rw) (s:List UInt8) (idx t yy n:Int) (D K Ls P:List AV) (e:Int):Aid:=aidJ [(4,3,.res (.bool true)),(4,6,.res (.bool true)),(6,2,.res (.fptr (rwC y) 0)),(7,2,.res (.fptr (rwC y) 0))] [] (manyF [(16,fun _=>some (.agg (.str s::I idx::itF t yy n D K))),(17,fun _=>some (.fsl false Ls)),(18,fun _=>some (.tuple [.agg P,I e])),(19,fun _=>some (.tuple [.agg P,I e])),(20,fun _=>some (.bool true))]) [] []
@[simp] abbrev wa1 (Rs:List AV):=(AV.fsl false Rs=AV.fsl false Rs∧closedA (AV.fsl false Rs)=true)
@[simp] abbrev wa2:=((some 0=some 0∧0=0)∧(some 1=some 1∧0=0)∧True)
abbrev wa3 (C' L' M' N':AV) (p:Ob):=(fitsT Tryz.prog 33 (AV.agg (obF p M' N' L' C')) 37)
theorem ss_r (y:Rw) (i j:Int) (Rs:List AV) (s:List UInt8) (idx t yy n e:Int) (D K Ls O':List AV) (o p:Ob) (M N L C M' N' L' C':AV) (Nx:Prop) (Q:AExit→St→Prop):wpK Tryz.prog opts0 40 (ssA y s idx t yy n D K Ls (obF p M' N' L' C') e) (lpCode Tryz.prog 3 5) (ssV i Rs (obF o M N L C)).st (roundP 0 [(0,0),(1,1)] (ssV j Rs O') Nx [] ssF Q)=
  (binA Tryz.prog BinOp.lss 3 (Operand.tmp 15) (Operand.tmp 17) (I i) (I (Int.ofNat (lenN Rs)))=some (AV.bool true)∧binA Tryz.prog BinOp.lss 3 (Operand.tmp 20) (Operand.const (Value.int IntKind.i64 25)) (I i) (I 25)=some (AV.bool true)∧indexAddrA Tryz.prog 22 (AV.fsl false Rs) (I i)=some (AV.fptr [I y.1,I y.2,I y.3,I y.4] 0)∧SC 16 [AV.agg [I y.1,I y.2,I y.3,I y.4]] (AV.agg [AV.str s,I idx,I t,I yy,I n,AV.fsl false D,AV.fsl false K])∧indexAddrA Tryz.prog 22 (AV.fsl false Rs) (I i)=some (AV.fptr [I y.1,I y.2,I y.3,I y.4] 0)∧mtB (beqInt (y.4.tmod 7) 0) (SC 17 [AV.agg (obF o M N L C),AV.str s] (AV.fsl false Ls)∧SC 18 [AV.agg (obF o M N L C),AV.agg [AV.str s,I (Int.ofNat (lenN Ls)),I t,I yy,I n,AV.fsl false D,AV.fsl false K]] (AV.tuple [AV.agg (obF p M' N' L' C'),I e])∧oblB (wa3 C' L' M' N' p) (SC 19 [AV.agg (obF o M N L C),AV.agg [AV.str s,I (Int.ofNat (lenN Ls)),I t,I yy,I n,AV.fsl false D,AV.fsl false K]] (AV.tuple [AV.agg (obF p M' N' L' C'),I e])∧oblB (wa3 C' L' M' N' p) (mtB (!beqInt e e) ((True∧True∧True)∧Q AExit.ret ssF.st) (SC 20 [AV.agg (obF p M' N' L' C'),AV.agg (obF p M' N' L' C')] (AV.bool true)∧mtB (beqInt e 0) (oblB (wa3 C' L' M' N' p) (oblB (wa3 C' L' M' N' p) ((((wa1 Rs)∧(I (wrapA IntKind.i64 (i+1))=I j∧closedA (I j)=true)∧True)∧wa2∧((obF p M' N' L' C')=O'∧closedAll O'=true)∧((obF p M' N' L' C')=O'∧closedAll O'=true)∧True)∧Nx))) ((((wa1 Rs)∧(I (wrapA IntKind.i64 (i+1))=I j∧closedA (I j)=true)∧True)∧wa2∧((obF o M N L C)=O'∧closedAll O'=true)∧((obF o M N L C)=O'∧closedAll O'=true)∧True)∧Nx))))) (SC 18 [AV.agg (obF o M N L C),AV.agg [AV.str s,I idx,I t,I yy,I n,AV.fsl false D,AV.fsl false K]] (AV.tuple [AV.agg (obF p M' N' L' C'),I e])∧oblB (wa3 C' L' M' N' p) (SC 19 [AV.agg (obF o M N L C),AV.agg [AV.str s,I idx,I t,I yy,I n,AV.fsl false D,AV.fsl false K]] (AV.tuple [AV.agg (obF p M' N' L' C'),I e])∧oblB (wa3 C' L' M' N' p) (mtB (!beqInt e e) ((True∧True∧True)∧Q AExit.ret ssF.st) (SC 20 [AV.agg (obF p M' N' L' C'),AV.agg (obF p M' N' L' C')] (AV.bool true)∧mtB (beqInt e 0) (oblB (wa3 C' L' M' N' p) (oblB (wa3 C' L' M' N' p) ((((wa1 Rs)∧(I (wrapA IntKind.i64 (i+1))=I j∧closedA (I j)=true)∧True)∧wa2∧((obF p M' N' L' C')=O'∧closedAll O'=true)∧((obF p M' N' L' C')=O'∧closedAll O'=true)∧True)∧Nx))) ((((wa1 Rs)∧(I (wrapA IntKind.i64 (i+1))=I j∧closedA (I j)=true)∧True)∧wa2∧((obF o M N L C)=O'∧closedAll O'=true)∧((obF o M N L C)=O'∧closedAll O'=true)∧True)∧Nx)))))):=by kernel_rfl
theorem ss_endA (i:Int) (Rs O:List AV) (Nx:Prop) (Q:AExit→St→Prop):wpK Tryz.prog opts0 40 (aidJ [(4,3,.res (.bool false))] [] noSem [] []) (lpCode Tryz.prog 3 5) (ssV i Rs O).st (roundP 0 [] (ssV 0 [] []) Nx [] ssF Q)=
  (binA Tryz.prog BinOp.lss 3 (Operand.tmp 15) (Operand.tmp 17) (I i) (I (Int.ofNat (lenN Rs)))=some (AV.bool false)∧(True∧True∧True)∧Q (AExit.exit 0) ssF.st):=by kernel_rfl
theorem ss_endB (i:Int) (Rs O:List AV) (Nx:Prop) (Q:AExit→St→Prop):wpK Tryz.prog opts0 40 (aidJ [(4,3,.res (.bool true)),(4,6,.res (.bool false))] [] noSem [] []) (lpCode Tryz.prog 3 5) (ssV i Rs O).st (roundP 0 [] (ssV 0 [] []) Nx [] ssF Q)=
  (binA Tryz.prog BinOp.lss 3 (Operand.tmp 15) (Operand.tmp 17) (I i) (I (Int.ofNat (lenN Rs)))=some (AV.bool true)∧binA Tryz.prog BinOp.lss 3 (Operand.tmp 20) (Operand.const (Value.int IntKind.i64 25)) (I i) (I 25)=some (AV.bool false)∧(True∧True∧True)∧Q (AExit.exit 0) ssF.st):=by kernel_rfl
def ssL (Rs O:List AV):LoopS:=fun st Q=>seesK 0 [(0,2),(1,5)] (ssV 0 Rs O) st∧Q (.exit 0) ssF.st
theorem ss_fn (k:Int) (Rs:List AV) (o:Ob) (M N L C:AV) (Q:AV→Prop):fnK Tryz.prog opts0 40 (aidJ [] [(5,ssL Rs (obF o M N L C))] (manyF [(15,fun _=>some (.agg (obF o M N L C))),(21,fun _=>some (.bool true))]) [] []) 3 [I k,.fsl false Rs] [] 0 (fun v _ _=>Q v)=
  (SC 15 [] (AV.agg (obF o M N L C))∧oblB (fitsT Tryz.prog 33 (AV.agg (obF o M N L C)) 37) (SC 15 [] (AV.agg (obF o M N L C))∧oblB (fitsT Tryz.prog 33 (AV.agg (obF o M N L C)) 37) ((((wa1 Rs)∧(I 0=I 0∧true=true)∧True)∧((some 2=some 2∧0=0)∧(some 5=some 5∧0=0)∧True)∧((obF o M N L C)=(obF o M N L C)∧closedAll (obF o M N L C)=true)∧((obF o M N L C)=(obF o M N L C)∧closedAll (obF o M N L C)=true)∧True)∧SC 21 [] (AV.bool true)∧Q (AV.bool true)))):=by kernel_rfl
theorem fresh_fn (Q:AV→Prop):fnK Tryz.prog opts0 40 aid0 15 [] [] 0 (fun v _ _=>Q v)=
  (Q (AV.agg [AV.str [49],I 2,I 0,I 0,I 0,AV.nilsl,I 1,AV.bool false,I 0,AV.bool false,I 0,AV.bool false,I 0,AV.bool false,I 0,AV.bool false,I 0,AV.bool false,I 0,AV.bool false,I 0,AV.bool false,I 0,AV.bool false,I 0,AV.bool false,I 0,I 0,AV.str [],AV.nilsl,AV.nilsl,AV.nilsl,AV.bool false,I 0,I 0,I 0,AV.bool false])):=by kernel_rfl
end
structure SetI (o:Ob):Prop where
 ok:Okay o
 c:∀x∈o.cust,x.name∈nameL∧cusB x.name=true
theorem SetI.cus {o:Ob} (h:SetI o) {s:List UInt8} (hs:s∈nameL):CusOk (cusB s) s o:=
 ⟨fun hc=>(by decide:∀s∈nameL,cusB s=true→∀k∈kinds,nameK k≠s) s hs hc,fun hc x hx e=>by
  have:=(h.c x hx).2
  rw[e,hc] at this
  cases this⟩
theorem SetI.len {o:Ob} (h:SetI o):(allS o).length≤90000:=by
 have h1:=stdT_len h.ok.g kinds
 have h2:=cusR_len o.cust []
 have h4:=(wk_cusR o.cust []).len
 have h5:=h.ok.fit.c
 rw[h2,List.length_map] at h4
 rw[show kinds.length=20 from rfl] at h1
 rw[allS,List.length_append]
 omega
def CusIn (o p:Ob) (c:Bool) (s:List UInt8):Prop:=∀x∈p.cust,x∈o.cust∨(x.name=s∧c=true)
theorem put_cusIn {o:Ob} {k:Kd} {j:Nat} {v:It} {c:Bool} {s:List UInt8} (hk:findK c s=some k):CusIn o (putK o j v k) c s:=by
 have same:∀p:Ob,p.cust=o.cust→CusIn o p c s:=fun p e x hx=> .inl (by rw[e] at hx;exact hx)
 cases k with
 |cus c'=>
  obtain ⟨e1,e2⟩:=cus_find hk
  intro x hx
  rcases mem_put hx with hx|rfl
  ·exact .inl hx
  ·exact .inr ⟨e2.symm,e1⟩
 |dat k=>
  refine same _ ?_
  simp only[putK]
  unfold setDate
  split<;>rfl
 |_=>exact same _ rfl
theorem more_cusIn {o:Ob} {k:Kd} {a:At} {c:Bool} (hk:findK c a.name=some k):(moreK o k a).2=0→CusIn o (moreK o k a).1 c a.name:=by
 unfold moreK
 split
 ·intro h;cases h
 split
 ·intro h;cases h
 split
 ·intro h;cases h
 split
 ·intro h;cases h
 split
 ·intro h;cases h
 ·unfold laidK
  split
  ·exact fun _=>put_cusIn hk
  ·intro h;cases h
theorem set_cusIn {c:Bool} {o:Ob} {a:At}:(setS c o a).2=0→CusIn o (setS c o a).1 c a.name:=by
 unfold setS
 cases hk:findK c a.name with
 |none=>intro h;cases h
 |some k=>
  dsimp only
  split
  ·intro h;cases h
  ·exact more_cusIn hk
theorem set_I {o:Ob} (h:SetI o) {a:At} (ha:txI a.v) (hs:a.name∈nameL) (h0:(setS (cusB a.name) o a).2=0):SetI (setS (cusB a.name) o a).1:=by
 refine ⟨(set_ok h.ok ha h0).1,fun x hx=> ?_⟩
 rcases set_cusIn h0 x hx with hx|⟨e1,e2⟩
 ·exact h.c x hx
 ·rw[e1];exact ⟨hs,e2⟩
theorem fit_z:FitO zO:=⟨by simp[zO],by simp[zO],by simp[zO],by simp[zO,big]⟩
theorem laid_z {o:Ob} {k:Kd} {j:Nat} {v:It}:(laidK o k j v).2≠0→(laidK o k j v).1=zO:=by
 unfold laidK
 split
 ·intro h;exact absurd rfl h
 ·exact fun _=>rfl
theorem more_z {o:Ob} {k:Kd} {a:At}:(moreK o k a).2≠0→(moreK o k a).1=zO:=by
 unfold moreK
 split
 ·exact fun _=>rfl
 split
 ·exact fun _=>rfl
 split
 ·exact fun _=>rfl
 split
 ·exact fun _=>rfl
 split
 ·exact fun _=>rfl
 ·exact laid_z
theorem set_z {c:Bool} {o:Ob} {a:At}:(setS c o a).2≠0→(setS c o a).1=zO:=by
 unfold setS
 split
 ·exact fun _=>rfl
 split
 ·exact fun _=>rfl
 ·exact more_z
end Go.Proofs.YtjhggnebkfpgcaaGreatDoor
namespace Go.Proofs.YtjhggnebkfpgcaaGreatDoor
set_option maxRecDepth 20000
open Go Go.RowKit
open Go.Proofs.Abs
theorem lss25_t {i n:Nat} (h:i<n):binA Tryz.prog .lss 3 (.tmp 15) (.tmp 17) (I (.ofNat i)) (I (.ofNat n))=some (.bool true):=lss_t (by simp only[Int.ofNat_eq_natCast];omega)
theorem ss_step {l:List Rw} {i:Nat} {y:Rw} (hy:l[i]? =some y) (hi:i<25) {o:Ob} (h:SetI o):∃o',SetI o'∧∀Q:AExit→St→Prop,ALp Tryz.prog opts0.glob 0 (lpCode Tryz.prog 3 5) (ssV (.ofNat (i+1)) (l.map rwA) (obC o')).st Q→ALp Tryz.prog opts0.glob 0 (lpCode Tryz.prog 3 5) (ssV (.ofNat i) (l.map rwA) (obC o)).st Q:=by
 have ha:txI (attrI y).v:=value_tx _ _
 have hnm:(attrI y).name∈nameL:=ofL_mem nameL [] y.k (by simp[nameL])
 have hat:=attr_sem y
 have hR:=closed_rws l
 have hO:=closed_obC o
 have hl:i<(l.map rwA).length:=by
  obtain ⟨h1,_⟩:=List.getElem?_eq_some_iff.1 hy
  simpa using h1
 have ga:=lss25_t (i:=i) (n:=(l.map rwA).length) hl
 rw[←lenN_eq] at ga
 have gb:binA Tryz.prog .lss 3 (.tmp 20) (.const (Value.int IntKind.i64 25)) (I (.ofNat i)) (I 25)=some (.bool true):=lss_t (by simp only[Int.ofNat_eq_natCast];omega)
 have gx:indexAddrA Tryz.prog 22 (.fsl false (l.map rwA)) (I (.ofNat i))=some (.fptr (rwC y) 0):=fsl_index (v:=rwA y) (e:=42) (sz:=4) (by kernel_rfl) (by kernel_rfl) (by rw[List.getElem?_map,hy];rfl) rfl
 have hw:wrapA .i64 (Int.ofNat i+1)=Int.ofNat (i+1):=wrN (by omega)
 revert ha hnm hat
 generalize attrI y=a
 obtain ⟨s,idx,v⟩:=a
 intro ha hnm hat
 simp only at ha hnm
 have hc:=cus_sem s hnm
 have hcr:=cusr_sem s hnm
 have hcu:=h.cus hnm
 have hof:=rof_sem h.ok.fit h.len s
 rw[of_all hcu] at hof
 have hlen:lenN ((ofS (cusB s) o s).map atA)=(ofS (cusB s) o s).length:=by rw[lenN_eq,List.length_map]
 have step:∀j:Int,((y.c.tmod 7=0→j= .ofNat (ofS (cusB s) o s).length)∧(y.c.tmod 7≠0→j=idx))→∃o',SetI o'∧∀Q:AExit→St→Prop,ALp Tryz.prog opts0.glob 0 (lpCode Tryz.prog 3 5) (ssV (.ofNat (i+1)) (l.map rwA) (obC o')).st Q→ALp Tryz.prog opts0.glob 0 (lpCode Tryz.prog 3 5) (ssV (.ofNat i) (l.map rwA) (obC o)).st Q:=fun j hj=>by
  have h1:=set_sem (a:=⟨s,j,v⟩) h.ok.fit hc h.ok.g ha
  have h2:=rset_sem (a:=⟨s,j,v⟩) h.ok.fit h.len hcr hcu h.ok.g ha
  have hI:=set_I (a:=⟨s,j,v⟩) h ha hnm
  have hz:=set_z (c:=cusB s) (o:=o) (a:=⟨s,j,v⟩)
  simp only at hI
  revert h1 h2 hI hz
  generalize setS (cusB s) o ⟨s,j,v⟩=p
  obtain ⟨p,e⟩:=p
  intro h1 h2 hI hz
  simp only at hI hz
  have hfit:FitO p:=by
   by_cases e0:e=0
   ·exact (hI e0).ok.fit
   ·rw[hz e0];exact fit_z
  have hsame:=osame_sem hfit
  have fp:=fits_obC p
  have hP:=closed_obC p
  obtain ⟨t,yy,n,d,ks⟩:=v
  rw[atA_F] at h1 h2 hat
  unfold ansA at h1 h2
  have hee:(!beqInt e e)=false:=by rw[beqInt_iff.2 rfl];rfl
  by_cases e0:e=0
  ·have e0':beqInt e 0=true:=beqInt_iff.2 e0
   refine ⟨p,hI e0,fun Q hq=> ?_⟩
   refine ALp.round (A:=ssA y s idx t yy n (toBytes d) (itAs ks) ((ofS (cusB s) o s).map atA) (obC p) e) (V1:=ssV (.ofNat (i+1)) (l.map rwA) (obC p)) (V2:=ssV (.ofNat (i+1)) (l.map rwA) (obC p)) (F:=ssF) (lk:=[(0,0),(1,1)]) (lk':=[]) base0 aidJ_ok (LsOk.no rfl) .refl ?_
   unfold obA at hof h1 h2 hsame
   unfold obC at hO hP hof h1 h2 hsame fp hq⊢
   rw[ss_r,hw,hlen]
   refine ⟨ga,gb,gx,hat,gx,mtB_of (fun ec=> ?_) fun ec=> ?_⟩
   ·have ej:=hj.1 (beqInt_iff.1 ec)
    rw[ej] at h1 h2
    exact ⟨hof,h1,oblB_of fp ⟨h2,oblB_of fp (mF hee ⟨hsame,mT e0' (oblB_of fp (oblB_of fp ⟨⟨⟨⟨rfl,hR⟩,⟨rfl,rfl⟩,trivial⟩,⟨⟨rfl,rfl⟩,⟨rfl,rfl⟩,trivial⟩,⟨rfl,hP⟩,⟨rfl,hP⟩,trivial⟩,hq⟩))⟩)⟩⟩
   ·have ej:=hj.2 (beqInt_false.1 ec)
    rw[ej] at h1 h2
    exact ⟨h1,oblB_of fp ⟨h2,oblB_of fp (mF hee ⟨hsame,mT e0' (oblB_of fp (oblB_of fp ⟨⟨⟨⟨rfl,hR⟩,⟨rfl,rfl⟩,trivial⟩,⟨⟨rfl,rfl⟩,⟨rfl,rfl⟩,trivial⟩,⟨rfl,hP⟩,⟨rfl,hP⟩,trivial⟩,hq⟩))⟩)⟩⟩
  ·have e0':beqInt e 0=false:=beqInt_false.2 e0
   refine ⟨o,h,fun Q hq=> ?_⟩
   refine ALp.round (A:=ssA y s idx t yy n (toBytes d) (itAs ks) ((ofS (cusB s) o s).map atA) (obC p) e) (V1:=ssV (.ofNat (i+1)) (l.map rwA) (obC o)) (V2:=ssV (.ofNat (i+1)) (l.map rwA) (obC o)) (F:=ssF) (lk:=[(0,0),(1,1)]) (lk':=[]) base0 aidJ_ok (LsOk.no rfl) .refl ?_
   unfold obA at hof h1 h2 hsame
   unfold obC at hO hP hof h1 h2 hsame fp hq⊢
   rw[ss_r,hw,hlen]
   refine ⟨ga,gb,gx,hat,gx,mtB_of (fun ec=> ?_) fun ec=> ?_⟩
   ·have ej:=hj.1 (beqInt_iff.1 ec)
    rw[ej] at h1 h2
    exact ⟨hof,h1,oblB_of fp ⟨h2,oblB_of fp (mF hee ⟨hsame,mF e0' ⟨⟨⟨⟨rfl,hR⟩,⟨rfl,rfl⟩,trivial⟩,⟨⟨rfl,rfl⟩,⟨rfl,rfl⟩,trivial⟩,⟨rfl,hO⟩,⟨rfl,hO⟩,trivial⟩,hq⟩⟩)⟩⟩
   ·have ej:=hj.2 (beqInt_false.1 ec)
    rw[ej] at h1 h2
    exact ⟨h1,oblB_of fp ⟨h2,oblB_of fp (mF hee ⟨hsame,mF e0' ⟨⟨⟨⟨rfl,hR⟩,⟨rfl,rfl⟩,trivial⟩,⟨⟨rfl,rfl⟩,⟨rfl,rfl⟩,trivial⟩,⟨rfl,hO⟩,⟨rfl,hO⟩,trivial⟩,hq⟩⟩)⟩⟩
 by_cases e7:y.c.tmod 7=0
 ·exact step _ ⟨fun _=>rfl,fun h=>absurd e7 h⟩
 ·exact step _ ⟨fun h=>absurd h e7,fun _=>rfl⟩
theorem ss_run {l:List Rw}:∀ (m i:Nat) (o:Ob),i+m=min l.length 25→SetI o→∀Q:AExit→St→Prop,Q (.exit 0) ssF.st→ALp Tryz.prog opts0.glob 0 (lpCode Tryz.prog 3 5) (ssV (.ofNat i) (l.map rwA) (obC o)).st Q
 | 0,i,o,hm,h,Q,hq=>by
  rw[Nat.add_zero] at hm
  by_cases hi:i<l.length
  ·refine ALp.round (A:=aidJ [(4,3,.res (.bool true)),(4,6,.res (.bool false))] [] noSem [] []) (V1:=ssV 0 [] []) (V2:=ssV 0 [] []) (F:=ssF) (lk:=[]) (lk':=[]) base0 aidJ_ok (LsOk.no rfl) .refl ?_
   rw[ss_endB]
   exact ⟨lss_t (by simp only[lenN_eq,List.length_map,Int.ofNat_eq_natCast];omega),lss_f (by simp only[Int.ofNat_eq_natCast];omega),⟨trivial,trivial,trivial⟩,hq⟩
  ·refine ALp.round (A:=aidJ [(4,3,.res (.bool false))] [] noSem [] []) (V1:=ssV 0 [] []) (V2:=ssV 0 [] []) (F:=ssF) (lk:=[]) (lk':=[]) base0 aidJ_ok (LsOk.no rfl) .refl ?_
   rw[ss_endA]
   exact ⟨lss_f (by simp only[lenN_eq,List.length_map,Int.ofNat_eq_natCast];omega),⟨trivial,trivial,trivial⟩,hq⟩
 |m+1,i,o,hm,h,Q,hq=>by
  have hi:i<l.length:=by omega
  obtain ⟨o1,h1,s1⟩:=ss_step (l:=l) (List.getElem?_eq_getElem hi) (by omega) h
  exact s1 Q (ss_run (l:=l) m (i+1) o1 (by omega) h1 Q hq)
theorem ss_at:loopsAt (fnCode Tryz.prog 3) 5=[lpCode Tryz.prog 3 5]:=by kernel_rfl
def frO:Ob:={zO with id:=[49],ty:=2,st:=1}
theorem fresh_sem:SC 15 [] (obA frO):=by
 refine fnK_semE (A:=aid0) base0 aidOk0 (fnLs_of (LsOk.no rfl)) rfl ?_
 rw[fresh_fn]
 refine ⟨rfl,.agg ?_⟩
 simp only[obC,obF,matA,namA,lnkA,cusA]
 (repeat (first|exact Wk.refl _|exact WkL.refl _|exact Wk.nil|exact Wk.row|exact WkE.refl _|exact WkL.nil|exact WkE.nil|apply Wk.agg|apply Wk.tuple|apply WkL.cons|apply Wk.rows|apply WkE.consA))
theorem fr_I:SetI frO:=⟨⟨⟨by simp[frO,zO],by simp[frO,zO],by simp[frO,zO],by simp[frO,zO,big]⟩,(fun _ h=>by cases h),(fun _ h=>by cases h),(fun _ h=>by cases h),by decide,by simp[frO,zO]⟩,(fun _ h=>by cases h)⟩
theorem law_sem (k:Int) (l:List Rw):SC 3 [I k,.fsl false (l.map rwA)] (.bool true):=by
 have hR:=closed_rws l
 have hO:=closed_obC frO
 have fo:=fits_obC frO
 have hfr:=fresh_sem
 refine fnK_semV (A:=aidJ [] [(5,ssL (l.map rwA) (obC frO))] (manyF [(15,fun _=>some (.agg (obC frO))),(21,fun _=>some (.bool true))]) [] []) base0 aidJ_ok
  (fnLs_of (LsOk.at1 rfl ss_at fun st Q hs=> .seen base0.glob hs.1 (ss_run (l:=l) (min l.length 25) 0 frO (Nat.zero_add _) fr_I Q hs.2))) (by simp only[closedAll,closedA,hR,Bool.and_self]) rfl ?_
 unfold obA at hfr
 unfold obC at hO fo hfr⊢
 rw[ss_fn]
 exact ⟨hfr,oblB_of fo ⟨hfr,oblB_of fo ⟨⟨⟨⟨rfl,hR⟩,⟨rfl,rfl⟩,trivial⟩,⟨⟨rfl,rfl⟩,⟨rfl,rfl⟩,trivial⟩,⟨rfl,hO⟩,⟨rfl,hO⟩,trivial⟩,known_sem,rfl⟩⟩⟩
end Go.Proofs.YtjhggnebkfpgcaaGreatDoor
