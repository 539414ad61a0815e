/- Put, TSame, Places, More, Ops. -/
import Derived.Test.YtjhggnebkfpgcaaGreatDoorQ1
import Derived.KernelRfl
import Derived.Test.YtjhggnebkfpgcaaGreatDoorG5
namespace Go.Proofs.YtjhggnebkfpgcaaGreatDoor
set_option maxRecDepth 20000
open Go Go.RowKit
open Go.Proofs.Abs
def putL {α:Type} (l:List α) (i:Nat) (x:α):List α:=l.take i++x::l.drop (i+1)
theorem putS0_0 (x:List UInt8):ansQ Tryz.prog optsK 40 169 [.nilsl,I 0,(.str x)]=some (.fsl false [(.str x)]):=by kernel_rfl
theorem putS0_0n (x:List UInt8):ansQ Tryz.prog optsK 40 169 [.nesl,I 0,(.str x)]=some (.fsl false [(.str x)]):=by kernel_rfl
theorem putS1_0 (a x:List UInt8):ansQ Tryz.prog optsK 40 169 [(.fsl false [(.str a)]),I 0,(.str x)]=some (.fsl false [(.str x)]):=by kernel_rfl
theorem putS1_1 (a x:List UInt8):ansQ Tryz.prog optsK 40 169 [(.fsl false [(.str a)]),I 1,(.str x)]=some (.fsl false [(.str a),(.str x)]):=by kernel_rfl
theorem putS2_0 (a b x:List UInt8):ansQ Tryz.prog optsK 40 169 [(.fsl false [(.str a),(.str b)]),I 0,(.str x)]=some (.fsl false [(.str x),(.str b)]):=by kernel_rfl
theorem putS2_1 (a b x:List UInt8):ansQ Tryz.prog optsK 40 169 [(.fsl false [(.str a),(.str b)]),I 1,(.str x)]=some (.fsl false [(.str a),(.str x)]):=by kernel_rfl
theorem putS2_2 (a b x:List UInt8):ansQ Tryz.prog optsK 40 169 [(.fsl false [(.str a),(.str b)]),I 2,(.str x)]=some (.fsl false [(.str a),(.str b),(.str x)]):=by kernel_rfl
theorem putS3_0 (a b c x:List UInt8):ansQ Tryz.prog optsK 40 169 [(.fsl false [(.str a),(.str b),(.str c)]),I 0,(.str x)]=some (.fsl false [(.str x),(.str b),(.str c)]):=by kernel_rfl
theorem putS3_1 (a b c x:List UInt8):ansQ Tryz.prog optsK 40 169 [(.fsl false [(.str a),(.str b),(.str c)]),I 1,(.str x)]=some (.fsl false [(.str a),(.str x),(.str c)]):=by kernel_rfl
theorem putS3_2 (a b c x:List UInt8):ansQ Tryz.prog optsK 40 169 [(.fsl false [(.str a),(.str b),(.str c)]),I 2,(.str x)]=some (.fsl false [(.str a),(.str b),(.str x)]):=by kernel_rfl
theorem putS3_3 (a b c x:List UInt8):ansQ Tryz.prog optsK 40 169 [(.fsl false [(.str a),(.str b),(.str c)]),I 3,(.str x)]=some (.fsl false [(.str a),(.str b),(.str c),(.str x)]):=by kernel_rfl
theorem putS4_0 (a b c d x:List UInt8):ansQ Tryz.prog optsK 40 169 [(.fsl false [(.str a),(.str b),(.str c),(.str d)]),I 0,(.str x)]=some (.fsl false [(.str x),(.str b),(.str c),(.str d)]):=by kernel_rfl
theorem putS4_1 (a b c d x:List UInt8):ansQ Tryz.prog optsK 40 169 [(.fsl false [(.str a),(.str b),(.str c),(.str d)]),I 1,(.str x)]=some (.fsl false [(.str a),(.str x),(.str c),(.str d)]):=by kernel_rfl
theorem putS4_2 (a b c d x:List UInt8):ansQ Tryz.prog optsK 40 169 [(.fsl false [(.str a),(.str b),(.str c),(.str d)]),I 2,(.str x)]=some (.fsl false [(.str a),(.str b),(.str x),(.str d)]):=by kernel_rfl
theorem putS4_3 (a b c d x:List UInt8):ansQ Tryz.prog optsK 40 169 [(.fsl false [(.str a),(.str b),(.str c),(.str d)]),I 3,(.str x)]=some (.fsl false [(.str a),(.str b),(.str c),(.str x)]):=by kernel_rfl
theorem putS4_4 (a b c d x:List UInt8):ansQ Tryz.prog optsK 40 169 [(.fsl false [(.str a),(.str b),(.str c),(.str d)]),I 4,(.str x)]=some (.fsl false [(.str a),(.str b),(.str c),(.str d),(.str x)]):=by kernel_rfl
theorem putS5_0 (a b c d e x:List UInt8):ansQ Tryz.prog optsK 40 169 [(.fsl false [(.str a),(.str b),(.str c),(.str d),(.str e)]),I 0,(.str x)]=some (.fsl false [(.str x),(.str b),(.str c),(.str d),(.str e)]):=by kernel_rfl
theorem putS5_1 (a b c d e x:List UInt8):ansQ Tryz.prog optsK 40 169 [(.fsl false [(.str a),(.str b),(.str c),(.str d),(.str e)]),I 1,(.str x)]=some (.fsl false [(.str a),(.str x),(.str c),(.str d),(.str e)]):=by kernel_rfl
theorem putS5_2 (a b c d e x:List UInt8):ansQ Tryz.prog optsK 40 169 [(.fsl false [(.str a),(.str b),(.str c),(.str d),(.str e)]),I 2,(.str x)]=some (.fsl false [(.str a),(.str b),(.str x),(.str d),(.str e)]):=by kernel_rfl
theorem putS5_3 (a b c d e x:List UInt8):ansQ Tryz.prog optsK 40 169 [(.fsl false [(.str a),(.str b),(.str c),(.str d),(.str e)]),I 3,(.str x)]=some (.fsl false [(.str a),(.str b),(.str c),(.str x),(.str e)]):=by kernel_rfl
theorem putS5_4 (a b c d e x:List UInt8):ansQ Tryz.prog optsK 40 169 [(.fsl false [(.str a),(.str b),(.str c),(.str d),(.str e)]),I 4,(.str x)]=some (.fsl false [(.str a),(.str b),(.str c),(.str d),(.str x)]):=by kernel_rfl
theorem putS5_5 (a b c d e x:List UInt8):ansQ Tryz.prog optsK 40 169 [(.fsl false [(.str a),(.str b),(.str c),(.str d),(.str e)]),I 5,(.str x)]=some (.fsl false [(.str a),(.str b),(.str c),(.str d),(.str e),(.str x)]):=by kernel_rfl
theorem putS6_0 (a b c d e f x:List UInt8):ansQ Tryz.prog optsK 40 169 [(.fsl false [(.str a),(.str b),(.str c),(.str d),(.str e),(.str f)]),I 0,(.str x)]=some (.fsl false [(.str x),(.str b),(.str c),(.str d),(.str e),(.str f)]):=by kernel_rfl
theorem putS6_1 (a b c d e f x:List UInt8):ansQ Tryz.prog optsK 40 169 [(.fsl false [(.str a),(.str b),(.str c),(.str d),(.str e),(.str f)]),I 1,(.str x)]=some (.fsl false [(.str a),(.str x),(.str c),(.str d),(.str e),(.str f)]):=by kernel_rfl
theorem putS6_2 (a b c d e f x:List UInt8):ansQ Tryz.prog optsK 40 169 [(.fsl false [(.str a),(.str b),(.str c),(.str d),(.str e),(.str f)]),I 2,(.str x)]=some (.fsl false [(.str a),(.str b),(.str x),(.str d),(.str e),(.str f)]):=by kernel_rfl
theorem putS6_3 (a b c d e f x:List UInt8):ansQ Tryz.prog optsK 40 169 [(.fsl false [(.str a),(.str b),(.str c),(.str d),(.str e),(.str f)]),I 3,(.str x)]=some (.fsl false [(.str a),(.str b),(.str c),(.str x),(.str e),(.str f)]):=by kernel_rfl
theorem putS6_4 (a b c d e f x:List UInt8):ansQ Tryz.prog optsK 40 169 [(.fsl false [(.str a),(.str b),(.str c),(.str d),(.str e),(.str f)]),I 4,(.str x)]=some (.fsl false [(.str a),(.str b),(.str c),(.str d),(.str x),(.str f)]):=by kernel_rfl
theorem putS6_5 (a b c d e f x:List UInt8):ansQ Tryz.prog optsK 40 169 [(.fsl false [(.str a),(.str b),(.str c),(.str d),(.str e),(.str f)]),I 5,(.str x)]=some (.fsl false [(.str a),(.str b),(.str c),(.str d),(.str e),(.str x)]):=by kernel_rfl
theorem putS_sem:∀ (l:List (List UInt8)) (i:Nat) (x:List UInt8),i≤l.length→l.length≤6→i<6→SC 169 [.fsl false (l.map .str),I (.ofNat i),(.str x)] (.fsl false ((putL l i x).map .str))
 |[],0,x,_,_,_=>SemCall.emptyAt (ansK rfl (putS0_0 x) rfl) (ansK rfl (putS0_0n x) rfl)
 |[a],0,x,_,_,_=>ansK rfl (putS1_0 a x) rfl
 |[a],1,x,_,_,_=>ansK rfl (putS1_1 a x) rfl
 |[a,b],0,x,_,_,_=>ansK rfl (putS2_0 a b x) rfl
 |[a,b],1,x,_,_,_=>ansK rfl (putS2_1 a b x) rfl
 |[a,b],2,x,_,_,_=>ansK rfl (putS2_2 a b x) rfl
 |[a,b,c],0,x,_,_,_=>ansK rfl (putS3_0 a b c x) rfl
 |[a,b,c],1,x,_,_,_=>ansK rfl (putS3_1 a b c x) rfl
 |[a,b,c],2,x,_,_,_=>ansK rfl (putS3_2 a b c x) rfl
 |[a,b,c],3,x,_,_,_=>ansK rfl (putS3_3 a b c x) rfl
 |[a,b,c,d],0,x,_,_,_=>ansK rfl (putS4_0 a b c d x) rfl
 |[a,b,c,d],1,x,_,_,_=>ansK rfl (putS4_1 a b c d x) rfl
 |[a,b,c,d],2,x,_,_,_=>ansK rfl (putS4_2 a b c d x) rfl
 |[a,b,c,d],3,x,_,_,_=>ansK rfl (putS4_3 a b c d x) rfl
 |[a,b,c,d],4,x,_,_,_=>ansK rfl (putS4_4 a b c d x) rfl
 |[a,b,c,d,e],0,x,_,_,_=>ansK rfl (putS5_0 a b c d e x) rfl
 |[a,b,c,d,e],1,x,_,_,_=>ansK rfl (putS5_1 a b c d e x) rfl
 |[a,b,c,d,e],2,x,_,_,_=>ansK rfl (putS5_2 a b c d e x) rfl
 |[a,b,c,d,e],3,x,_,_,_=>ansK rfl (putS5_3 a b c d e x) rfl
 |[a,b,c,d,e],4,x,_,_,_=>ansK rfl (putS5_4 a b c d e x) rfl
 |[a,b,c,d,e],5,x,_,_,_=>ansK rfl (putS5_5 a b c d e x) rfl
 |[a,b,c,d,e,f],0,x,_,_,_=>ansK rfl (putS6_0 a b c d e f x) rfl
 |[a,b,c,d,e,f],1,x,_,_,_=>ansK rfl (putS6_1 a b c d e f x) rfl
 |[a,b,c,d,e,f],2,x,_,_,_=>ansK rfl (putS6_2 a b c d e f x) rfl
 |[a,b,c,d,e,f],3,x,_,_,_=>ansK rfl (putS6_3 a b c d e f x) rfl
 |[a,b,c,d,e,f],4,x,_,_,_=>ansK rfl (putS6_4 a b c d e f x) rfl
 |[a,b,c,d,e,f],5,x,_,_,_=>ansK rfl (putS6_5 a b c d e f x) rfl
 |[],i+1,_,h,_,_=>absurd h (by simp)
 |[_],i+2,_,h,_,_=>absurd h (by simp)
 |[_,_],i+3,_,h,_,_=>absurd h (by simp)
 |[_,_,_],i+4,_,h,_,_=>absurd h (by simp)
 |[_,_,_,_],i+5,_,h,_,_=>absurd h (by simp)
 |[_,_,_,_,_],i+6,_,h,_,_=>absurd h (by simp)
 |[_,_,_,_,_,_],i+6,_,_,_,h=>absurd h (by omega)
 |_::_::_::_::_::_::_::_,_,_,_,h,_=>absurd h (by simp)
theorem putL0_0 (x:Lk):ansQ Tryz.prog optsK 40 181 [.nilsl,I 0,(lkA x)]=some (.fsl false [(lkA x)]):=by kernel_rfl
theorem putL0_0n (x:Lk):ansQ Tryz.prog optsK 40 181 [.nesl,I 0,(lkA x)]=some (.fsl false [(lkA x)]):=by kernel_rfl
theorem putL1_0 (a x:Lk):ansQ Tryz.prog optsK 40 181 [(.fsl false [(lkA a)]),I 0,(lkA x)]=some (.fsl false [(lkA x)]):=by kernel_rfl
theorem putL1_1 (a x:Lk):ansQ Tryz.prog optsK 40 181 [(.fsl false [(lkA a)]),I 1,(lkA x)]=some (.fsl false [(lkA a),(lkA x)]):=by kernel_rfl
theorem putL2_0 (a b x:Lk):ansQ Tryz.prog optsK 40 181 [(.fsl false [(lkA a),(lkA b)]),I 0,(lkA x)]=some (.fsl false [(lkA x),(lkA b)]):=by kernel_rfl
theorem putL2_1 (a b x:Lk):ansQ Tryz.prog optsK 40 181 [(.fsl false [(lkA a),(lkA b)]),I 1,(lkA x)]=some (.fsl false [(lkA a),(lkA x)]):=by kernel_rfl
theorem putL2_2 (a b x:Lk):ansQ Tryz.prog optsK 40 181 [(.fsl false [(lkA a),(lkA b)]),I 2,(lkA x)]=some (.fsl false [(lkA a),(lkA b),(lkA x)]):=by kernel_rfl
theorem putL3_0 (a b c x:Lk):ansQ Tryz.prog optsK 40 181 [(.fsl false [(lkA a),(lkA b),(lkA c)]),I 0,(lkA x)]=some (.fsl false [(lkA x),(lkA b),(lkA c)]):=by kernel_rfl
theorem putL3_1 (a b c x:Lk):ansQ Tryz.prog optsK 40 181 [(.fsl false [(lkA a),(lkA b),(lkA c)]),I 1,(lkA x)]=some (.fsl false [(lkA a),(lkA x),(lkA c)]):=by kernel_rfl
theorem putL3_2 (a b c x:Lk):ansQ Tryz.prog optsK 40 181 [(.fsl false [(lkA a),(lkA b),(lkA c)]),I 2,(lkA x)]=some (.fsl false [(lkA a),(lkA b),(lkA x)]):=by kernel_rfl
theorem putL3_3 (a b c x:Lk):ansQ Tryz.prog optsK 40 181 [(.fsl false [(lkA a),(lkA b),(lkA c)]),I 3,(lkA x)]=some (.fsl false [(lkA a),(lkA b),(lkA c),(lkA x)]):=by kernel_rfl
theorem putL4_0 (a b c d x:Lk):ansQ Tryz.prog optsK 40 181 [(.fsl false [(lkA a),(lkA b),(lkA c),(lkA d)]),I 0,(lkA x)]=some (.fsl false [(lkA x),(lkA b),(lkA c),(lkA d)]):=by kernel_rfl
theorem putL4_1 (a b c d x:Lk):ansQ Tryz.prog optsK 40 181 [(.fsl false [(lkA a),(lkA b),(lkA c),(lkA d)]),I 1,(lkA x)]=some (.fsl false [(lkA a),(lkA x),(lkA c),(lkA d)]):=by kernel_rfl
theorem putL4_2 (a b c d x:Lk):ansQ Tryz.prog optsK 40 181 [(.fsl false [(lkA a),(lkA b),(lkA c),(lkA d)]),I 2,(lkA x)]=some (.fsl false [(lkA a),(lkA b),(lkA x),(lkA d)]):=by kernel_rfl
theorem putL4_3 (a b c d x:Lk):ansQ Tryz.prog optsK 40 181 [(.fsl false [(lkA a),(lkA b),(lkA c),(lkA d)]),I 3,(lkA x)]=some (.fsl false [(lkA a),(lkA b),(lkA c),(lkA x)]):=by kernel_rfl
theorem putL4_4 (a b c d x:Lk):ansQ Tryz.prog optsK 40 181 [(.fsl false [(lkA a),(lkA b),(lkA c),(lkA d)]),I 4,(lkA x)]=some (.fsl false [(lkA a),(lkA b),(lkA c),(lkA d),(lkA x)]):=by kernel_rfl
theorem putL5_0 (a b c d e x:Lk):ansQ Tryz.prog optsK 40 181 [(.fsl false [(lkA a),(lkA b),(lkA c),(lkA d),(lkA e)]),I 0,(lkA x)]=some (.fsl false [(lkA x),(lkA b),(lkA c),(lkA d),(lkA e)]):=by kernel_rfl
theorem putL5_1 (a b c d e x:Lk):ansQ Tryz.prog optsK 40 181 [(.fsl false [(lkA a),(lkA b),(lkA c),(lkA d),(lkA e)]),I 1,(lkA x)]=some (.fsl false [(lkA a),(lkA x),(lkA c),(lkA d),(lkA e)]):=by kernel_rfl
theorem putL5_2 (a b c d e x:Lk):ansQ Tryz.prog optsK 40 181 [(.fsl false [(lkA a),(lkA b),(lkA c),(lkA d),(lkA e)]),I 2,(lkA x)]=some (.fsl false [(lkA a),(lkA b),(lkA x),(lkA d),(lkA e)]):=by kernel_rfl
theorem putL5_3 (a b c d e x:Lk):ansQ Tryz.prog optsK 40 181 [(.fsl false [(lkA a),(lkA b),(lkA c),(lkA d),(lkA e)]),I 3,(lkA x)]=some (.fsl false [(lkA a),(lkA b),(lkA c),(lkA x),(lkA e)]):=by kernel_rfl
theorem putL5_4 (a b c d e x:Lk):ansQ Tryz.prog optsK 40 181 [(.fsl false [(lkA a),(lkA b),(lkA c),(lkA d),(lkA e)]),I 4,(lkA x)]=some (.fsl false [(lkA a),(lkA b),(lkA c),(lkA d),(lkA x)]):=by kernel_rfl
theorem putL5_5 (a b c d e x:Lk):ansQ Tryz.prog optsK 40 181 [(.fsl false [(lkA a),(lkA b),(lkA c),(lkA d),(lkA e)]),I 5,(lkA x)]=some (.fsl false [(lkA a),(lkA b),(lkA c),(lkA d),(lkA e),(lkA x)]):=by kernel_rfl
theorem putL6_0 (a b c d e f x:Lk):ansQ Tryz.prog optsK 40 181 [(.fsl false [(lkA a),(lkA b),(lkA c),(lkA d),(lkA e),(lkA f)]),I 0,(lkA x)]=some (.fsl false [(lkA x),(lkA b),(lkA c),(lkA d),(lkA e),(lkA f)]):=by kernel_rfl
theorem putL6_1 (a b c d e f x:Lk):ansQ Tryz.prog optsK 40 181 [(.fsl false [(lkA a),(lkA b),(lkA c),(lkA d),(lkA e),(lkA f)]),I 1,(lkA x)]=some (.fsl false [(lkA a),(lkA x),(lkA c),(lkA d),(lkA e),(lkA f)]):=by kernel_rfl
theorem putL6_2 (a b c d e f x:Lk):ansQ Tryz.prog optsK 40 181 [(.fsl false [(lkA a),(lkA b),(lkA c),(lkA d),(lkA e),(lkA f)]),I 2,(lkA x)]=some (.fsl false [(lkA a),(lkA b),(lkA x),(lkA d),(lkA e),(lkA f)]):=by kernel_rfl
theorem putL6_3 (a b c d e f x:Lk):ansQ Tryz.prog optsK 40 181 [(.fsl false [(lkA a),(lkA b),(lkA c),(lkA d),(lkA e),(lkA f)]),I 3,(lkA x)]=some (.fsl false [(lkA a),(lkA b),(lkA c),(lkA x),(lkA e),(lkA f)]):=by kernel_rfl
theorem putL6_4 (a b c d e f x:Lk):ansQ Tryz.prog optsK 40 181 [(.fsl false [(lkA a),(lkA b),(lkA c),(lkA d),(lkA e),(lkA f)]),I 4,(lkA x)]=some (.fsl false [(lkA a),(lkA b),(lkA c),(lkA d),(lkA x),(lkA f)]):=by kernel_rfl
theorem putL6_5 (a b c d e f x:Lk):ansQ Tryz.prog optsK 40 181 [(.fsl false [(lkA a),(lkA b),(lkA c),(lkA d),(lkA e),(lkA f)]),I 5,(lkA x)]=some (.fsl false [(lkA a),(lkA b),(lkA c),(lkA d),(lkA e),(lkA x)]):=by kernel_rfl
theorem putL6_6 (a b c d e f x:Lk):ansQ Tryz.prog optsK 40 181 [(.fsl false [(lkA a),(lkA b),(lkA c),(lkA d),(lkA e),(lkA f)]),I 6,(lkA x)]=some (.fsl false [(lkA a),(lkA b),(lkA c),(lkA d),(lkA e),(lkA f),(lkA x)]):=by kernel_rfl
theorem putL7_0 (a b c d e f g x:Lk):ansQ Tryz.prog optsK 40 181 [(.fsl false [(lkA a),(lkA b),(lkA c),(lkA d),(lkA e),(lkA f),(lkA g)]),I 0,(lkA x)]=some (.fsl false [(lkA x),(lkA b),(lkA c),(lkA d),(lkA e),(lkA f),(lkA g)]):=by kernel_rfl
theorem putL7_1 (a b c d e f g x:Lk):ansQ Tryz.prog optsK 40 181 [(.fsl false [(lkA a),(lkA b),(lkA c),(lkA d),(lkA e),(lkA f),(lkA g)]),I 1,(lkA x)]=some (.fsl false [(lkA a),(lkA x),(lkA c),(lkA d),(lkA e),(lkA f),(lkA g)]):=by kernel_rfl
theorem putL7_2 (a b c d e f g x:Lk):ansQ Tryz.prog optsK 40 181 [(.fsl false [(lkA a),(lkA b),(lkA c),(lkA d),(lkA e),(lkA f),(lkA g)]),I 2,(lkA x)]=some (.fsl false [(lkA a),(lkA b),(lkA x),(lkA d),(lkA e),(lkA f),(lkA g)]):=by kernel_rfl
theorem putL7_3 (a b c d e f g x:Lk):ansQ Tryz.prog optsK 40 181 [(.fsl false [(lkA a),(lkA b),(lkA c),(lkA d),(lkA e),(lkA f),(lkA g)]),I 3,(lkA x)]=some (.fsl false [(lkA a),(lkA b),(lkA c),(lkA x),(lkA e),(lkA f),(lkA g)]):=by kernel_rfl
theorem putL7_4 (a b c d e f g x:Lk):ansQ Tryz.prog optsK 40 181 [(.fsl false [(lkA a),(lkA b),(lkA c),(lkA d),(lkA e),(lkA f),(lkA g)]),I 4,(lkA x)]=some (.fsl false [(lkA a),(lkA b),(lkA c),(lkA d),(lkA x),(lkA f),(lkA g)]):=by kernel_rfl
theorem putL7_5 (a b c d e f g x:Lk):ansQ Tryz.prog optsK 40 181 [(.fsl false [(lkA a),(lkA b),(lkA c),(lkA d),(lkA e),(lkA f),(lkA g)]),I 5,(lkA x)]=some (.fsl false [(lkA a),(lkA b),(lkA c),(lkA d),(lkA e),(lkA x),(lkA g)]):=by kernel_rfl
theorem putL7_6 (a b c d e f g x:Lk):ansQ Tryz.prog optsK 40 181 [(.fsl false [(lkA a),(lkA b),(lkA c),(lkA d),(lkA e),(lkA f),(lkA g)]),I 6,(lkA x)]=some (.fsl false [(lkA a),(lkA b),(lkA c),(lkA d),(lkA e),(lkA f),(lkA x)]):=by kernel_rfl
theorem putL7_7 (a b c d e f g x:Lk):ansQ Tryz.prog optsK 40 181 [(.fsl false [(lkA a),(lkA b),(lkA c),(lkA d),(lkA e),(lkA f),(lkA g)]),I 7,(lkA x)]=some (.fsl false [(lkA a),(lkA b),(lkA c),(lkA d),(lkA e),(lkA f),(lkA g),(lkA x)]):=by kernel_rfl
theorem putL8_0 (a b c d e f g h x:Lk):ansQ Tryz.prog optsK 40 181 [(.fsl false [(lkA a),(lkA b),(lkA c),(lkA d),(lkA e),(lkA f),(lkA g),(lkA h)]),I 0,(lkA x)]=some (.fsl false [(lkA x),(lkA b),(lkA c),(lkA d),(lkA e),(lkA f),(lkA g),(lkA h)]):=by kernel_rfl
theorem putL8_1 (a b c d e f g h x:Lk):ansQ Tryz.prog optsK 40 181 [(.fsl false [(lkA a),(lkA b),(lkA c),(lkA d),(lkA e),(lkA f),(lkA g),(lkA h)]),I 1,(lkA x)]=some (.fsl false [(lkA a),(lkA x),(lkA c),(lkA d),(lkA e),(lkA f),(lkA g),(lkA h)]):=by kernel_rfl
theorem putL8_2 (a b c d e f g h x:Lk):ansQ Tryz.prog optsK 40 181 [(.fsl false [(lkA a),(lkA b),(lkA c),(lkA d),(lkA e),(lkA f),(lkA g),(lkA h)]),I 2,(lkA x)]=some (.fsl false [(lkA a),(lkA b),(lkA x),(lkA d),(lkA e),(lkA f),(lkA g),(lkA h)]):=by kernel_rfl
theorem putL8_3 (a b c d e f g h x:Lk):ansQ Tryz.prog optsK 40 181 [(.fsl false [(lkA a),(lkA b),(lkA c),(lkA d),(lkA e),(lkA f),(lkA g),(lkA h)]),I 3,(lkA x)]=some (.fsl false [(lkA a),(lkA b),(lkA c),(lkA x),(lkA e),(lkA f),(lkA g),(lkA h)]):=by kernel_rfl
theorem putL8_4 (a b c d e f g h x:Lk):ansQ Tryz.prog optsK 40 181 [(.fsl false [(lkA a),(lkA b),(lkA c),(lkA d),(lkA e),(lkA f),(lkA g),(lkA h)]),I 4,(lkA x)]=some (.fsl false [(lkA a),(lkA b),(lkA c),(lkA d),(lkA x),(lkA f),(lkA g),(lkA h)]):=by kernel_rfl
theorem putL8_5 (a b c d e f g h x:Lk):ansQ Tryz.prog optsK 40 181 [(.fsl false [(lkA a),(lkA b),(lkA c),(lkA d),(lkA e),(lkA f),(lkA g),(lkA h)]),I 5,(lkA x)]=some (.fsl false [(lkA a),(lkA b),(lkA c),(lkA d),(lkA e),(lkA x),(lkA g),(lkA h)]):=by kernel_rfl
theorem putL8_6 (a b c d e f g h x:Lk):ansQ Tryz.prog optsK 40 181 [(.fsl false [(lkA a),(lkA b),(lkA c),(lkA d),(lkA e),(lkA f),(lkA g),(lkA h)]),I 6,(lkA x)]=some (.fsl false [(lkA a),(lkA b),(lkA c),(lkA d),(lkA e),(lkA f),(lkA x),(lkA h)]):=by kernel_rfl
theorem putL8_7 (a b c d e f g h x:Lk):ansQ Tryz.prog optsK 40 181 [(.fsl false [(lkA a),(lkA b),(lkA c),(lkA d),(lkA e),(lkA f),(lkA g),(lkA h)]),I 7,(lkA x)]=some (.fsl false [(lkA a),(lkA b),(lkA c),(lkA d),(lkA e),(lkA f),(lkA g),(lkA x)]):=by kernel_rfl
theorem putL_sem:∀ (l:List (Lk)) (i:Nat) (x:Lk),i≤l.length→l.length≤8→i<8→SC 181 [.fsl false (l.map lkA),I (.ofNat i),(lkA x)] (.fsl false ((putL l i x).map lkA))
 |[],0,x,_,_,_=>SemCall.emptyAt (ansK rfl (putL0_0 x) rfl) (ansK rfl (putL0_0n x) rfl)
 |[a],0,x,_,_,_=>ansK rfl (putL1_0 a x) rfl
 |[a],1,x,_,_,_=>ansK rfl (putL1_1 a x) rfl
 |[a,b],0,x,_,_,_=>ansK rfl (putL2_0 a b x) rfl
 |[a,b],1,x,_,_,_=>ansK rfl (putL2_1 a b x) rfl
 |[a,b],2,x,_,_,_=>ansK rfl (putL2_2 a b x) rfl
 |[a,b,c],0,x,_,_,_=>ansK rfl (putL3_0 a b c x) rfl
 |[a,b,c],1,x,_,_,_=>ansK rfl (putL3_1 a b c x) rfl
 |[a,b,c],2,x,_,_,_=>ansK rfl (putL3_2 a b c x) rfl
 |[a,b,c],3,x,_,_,_=>ansK rfl (putL3_3 a b c x) rfl
 |[a,b,c,d],0,x,_,_,_=>ansK rfl (putL4_0 a b c d x) rfl
 |[a,b,c,d],1,x,_,_,_=>ansK rfl (putL4_1 a b c d x) rfl
 |[a,b,c,d],2,x,_,_,_=>ansK rfl (putL4_2 a b c d x) rfl
 |[a,b,c,d],3,x,_,_,_=>ansK rfl (putL4_3 a b c d x) rfl
 |[a,b,c,d],4,x,_,_,_=>ansK rfl (putL4_4 a b c d x) rfl
 |[a,b,c,d,e],0,x,_,_,_=>ansK rfl (putL5_0 a b c d e x) rfl
 |[a,b,c,d,e],1,x,_,_,_=>ansK rfl (putL5_1 a b c d e x) rfl
 |[a,b,c,d,e],2,x,_,_,_=>ansK rfl (putL5_2 a b c d e x) rfl
 |[a,b,c,d,e],3,x,_,_,_=>ansK rfl (putL5_3 a b c d e x) rfl
 |[a,b,c,d,e],4,x,_,_,_=>ansK rfl (putL5_4 a b c d e x) rfl
 |[a,b,c,d,e],5,x,_,_,_=>ansK rfl (putL5_5 a b c d e x) rfl
 |[a,b,c,d,e,f],0,x,_,_,_=>ansK rfl (putL6_0 a b c d e f x) rfl
 |[a,b,c,d,e,f],1,x,_,_,_=>ansK rfl (putL6_1 a b c d e f x) rfl
 |[a,b,c,d,e,f],2,x,_,_,_=>ansK rfl (putL6_2 a b c d e f x) rfl
 |[a,b,c,d,e,f],3,x,_,_,_=>ansK rfl (putL6_3 a b c d e f x) rfl
 |[a,b,c,d,e,f],4,x,_,_,_=>ansK rfl (putL6_4 a b c d e f x) rfl
 |[a,b,c,d,e,f],5,x,_,_,_=>ansK rfl (putL6_5 a b c d e f x) rfl
 |[a,b,c,d,e,f],6,x,_,_,_=>ansK rfl (putL6_6 a b c d e f x) rfl
 |[a,b,c,d,e,f,g],0,x,_,_,_=>ansK rfl (putL7_0 a b c d e f g x) rfl
 |[a,b,c,d,e,f,g],1,x,_,_,_=>ansK rfl (putL7_1 a b c d e f g x) rfl
 |[a,b,c,d,e,f,g],2,x,_,_,_=>ansK rfl (putL7_2 a b c d e f g x) rfl
 |[a,b,c,d,e,f,g],3,x,_,_,_=>ansK rfl (putL7_3 a b c d e f g x) rfl
 |[a,b,c,d,e,f,g],4,x,_,_,_=>ansK rfl (putL7_4 a b c d e f g x) rfl
 |[a,b,c,d,e,f,g],5,x,_,_,_=>ansK rfl (putL7_5 a b c d e f g x) rfl
 |[a,b,c,d,e,f,g],6,x,_,_,_=>ansK rfl (putL7_6 a b c d e f g x) rfl
 |[a,b,c,d,e,f,g],7,x,_,_,_=>ansK rfl (putL7_7 a b c d e f g x) rfl
 |[a,b,c,d,e,f,g,h],0,x,_,_,_=>ansK rfl (putL8_0 a b c d e f g h x) rfl
 |[a,b,c,d,e,f,g,h],1,x,_,_,_=>ansK rfl (putL8_1 a b c d e f g h x) rfl
 |[a,b,c,d,e,f,g,h],2,x,_,_,_=>ansK rfl (putL8_2 a b c d e f g h x) rfl
 |[a,b,c,d,e,f,g,h],3,x,_,_,_=>ansK rfl (putL8_3 a b c d e f g h x) rfl
 |[a,b,c,d,e,f,g,h],4,x,_,_,_=>ansK rfl (putL8_4 a b c d e f g h x) rfl
 |[a,b,c,d,e,f,g,h],5,x,_,_,_=>ansK rfl (putL8_5 a b c d e f g h x) rfl
 |[a,b,c,d,e,f,g,h],6,x,_,_,_=>ansK rfl (putL8_6 a b c d e f g h x) rfl
 |[a,b,c,d,e,f,g,h],7,x,_,_,_=>ansK rfl (putL8_7 a b c d e f g h x) rfl
 |[],i+1,_,h,_,_=>absurd h (by simp)
 |[_],i+2,_,h,_,_=>absurd h (by simp)
 |[_,_],i+3,_,h,_,_=>absurd h (by simp)
 |[_,_,_],i+4,_,h,_,_=>absurd h (by simp)
 |[_,_,_,_],i+5,_,h,_,_=>absurd h (by simp)
 |[_,_,_,_,_],i+6,_,h,_,_=>absurd h (by simp)
 |[_,_,_,_,_,_],i+7,_,h,_,_=>absurd h (by simp)
 |[_,_,_,_,_,_,_],i+8,_,h,_,_=>absurd h (by simp)
 |[_,_,_,_,_,_,_,_],i+8,_,_,_,h=>absurd h (by omega)
 |_::_::_::_::_::_::_::_::_::_,_,_,_,h,_=>absurd h (by simp)
theorem putC0_0 (x:Cu):ansQ Tryz.prog optsK 40 155 [.nilsl,I 0,(cuA x)]=some (.fsl false [(cuA x)]):=by kernel_rfl
theorem putC0_0n (x:Cu):ansQ Tryz.prog optsK 40 155 [.nesl,I 0,(cuA x)]=some (.fsl false [(cuA x)]):=by kernel_rfl
theorem putC1_0 (a x:Cu):ansQ Tryz.prog optsK 40 155 [(.fsl false [(cuA a)]),I 0,(cuA x)]=some (.fsl false [(cuA x)]):=by kernel_rfl
theorem putC1_1 (a x:Cu):ansQ Tryz.prog optsK 40 155 [(.fsl false [(cuA a)]),I 1,(cuA x)]=some (.fsl false [(cuA a),(cuA x)]):=by kernel_rfl
theorem putC2_0 (a b x:Cu):ansQ Tryz.prog optsK 40 155 [(.fsl false [(cuA a),(cuA b)]),I 0,(cuA x)]=some (.fsl false [(cuA x),(cuA b)]):=by kernel_rfl
theorem putC2_1 (a b x:Cu):ansQ Tryz.prog optsK 40 155 [(.fsl false [(cuA a),(cuA b)]),I 1,(cuA x)]=some (.fsl false [(cuA a),(cuA x)]):=by kernel_rfl
theorem putC2_2 (a b x:Cu):ansQ Tryz.prog optsK 40 155 [(.fsl false [(cuA a),(cuA b)]),I 2,(cuA x)]=some (.fsl false [(cuA a),(cuA b),(cuA x)]):=by kernel_rfl
theorem putC3_0 (a b c x:Cu):ansQ Tryz.prog optsK 40 155 [(.fsl false [(cuA a),(cuA b),(cuA c)]),I 0,(cuA x)]=some (.fsl false [(cuA x),(cuA b),(cuA c)]):=by kernel_rfl
theorem putC3_1 (a b c x:Cu):ansQ Tryz.prog optsK 40 155 [(.fsl false [(cuA a),(cuA b),(cuA c)]),I 1,(cuA x)]=some (.fsl false [(cuA a),(cuA x),(cuA c)]):=by kernel_rfl
theorem putC3_2 (a b c x:Cu):ansQ Tryz.prog optsK 40 155 [(.fsl false [(cuA a),(cuA b),(cuA c)]),I 2,(cuA x)]=some (.fsl false [(cuA a),(cuA b),(cuA x)]):=by kernel_rfl
theorem putC3_3 (a b c x:Cu):ansQ Tryz.prog optsK 40 155 [(.fsl false [(cuA a),(cuA b),(cuA c)]),I 3,(cuA x)]=some (.fsl false [(cuA a),(cuA b),(cuA c),(cuA x)]):=by kernel_rfl
theorem putC4_0 (a b c d x:Cu):ansQ Tryz.prog optsK 40 155 [(.fsl false [(cuA a),(cuA b),(cuA c),(cuA d)]),I 0,(cuA x)]=some (.fsl false [(cuA x),(cuA b),(cuA c),(cuA d)]):=by kernel_rfl
theorem putC4_1 (a b c d x:Cu):ansQ Tryz.prog optsK 40 155 [(.fsl false [(cuA a),(cuA b),(cuA c),(cuA d)]),I 1,(cuA x)]=some (.fsl false [(cuA a),(cuA x),(cuA c),(cuA d)]):=by kernel_rfl
theorem putC4_2 (a b c d x:Cu):ansQ Tryz.prog optsK 40 155 [(.fsl false [(cuA a),(cuA b),(cuA c),(cuA d)]),I 2,(cuA x)]=some (.fsl false [(cuA a),(cuA b),(cuA x),(cuA d)]):=by kernel_rfl
theorem putC4_3 (a b c d x:Cu):ansQ Tryz.prog optsK 40 155 [(.fsl false [(cuA a),(cuA b),(cuA c),(cuA d)]),I 3,(cuA x)]=some (.fsl false [(cuA a),(cuA b),(cuA c),(cuA x)]):=by kernel_rfl
theorem putC4_4 (a b c d x:Cu):ansQ Tryz.prog optsK 40 155 [(.fsl false [(cuA a),(cuA b),(cuA c),(cuA d)]),I 4,(cuA x)]=some (.fsl false [(cuA a),(cuA b),(cuA c),(cuA d),(cuA x)]):=by kernel_rfl
theorem putC5_0 (a b c d e x:Cu):ansQ Tryz.prog optsK 40 155 [(.fsl false [(cuA a),(cuA b),(cuA c),(cuA d),(cuA e)]),I 0,(cuA x)]=some (.fsl false [(cuA x),(cuA b),(cuA c),(cuA d),(cuA e)]):=by kernel_rfl
theorem putC5_1 (a b c d e x:Cu):ansQ Tryz.prog optsK 40 155 [(.fsl false [(cuA a),(cuA b),(cuA c),(cuA d),(cuA e)]),I 1,(cuA x)]=some (.fsl false [(cuA a),(cuA x),(cuA c),(cuA d),(cuA e)]):=by kernel_rfl
theorem putC5_2 (a b c d e x:Cu):ansQ Tryz.prog optsK 40 155 [(.fsl false [(cuA a),(cuA b),(cuA c),(cuA d),(cuA e)]),I 2,(cuA x)]=some (.fsl false [(cuA a),(cuA b),(cuA x),(cuA d),(cuA e)]):=by kernel_rfl
theorem putC5_3 (a b c d e x:Cu):ansQ Tryz.prog optsK 40 155 [(.fsl false [(cuA a),(cuA b),(cuA c),(cuA d),(cuA e)]),I 3,(cuA x)]=some (.fsl false [(cuA a),(cuA b),(cuA c),(cuA x),(cuA e)]):=by kernel_rfl
theorem putC5_4 (a b c d e x:Cu):ansQ Tryz.prog optsK 40 155 [(.fsl false [(cuA a),(cuA b),(cuA c),(cuA d),(cuA e)]),I 4,(cuA x)]=some (.fsl false [(cuA a),(cuA b),(cuA c),(cuA d),(cuA x)]):=by kernel_rfl
theorem putC5_5 (a b c d e x:Cu):ansQ Tryz.prog optsK 40 155 [(.fsl false [(cuA a),(cuA b),(cuA c),(cuA d),(cuA e)]),I 5,(cuA x)]=some (.fsl false [(cuA a),(cuA b),(cuA c),(cuA d),(cuA e),(cuA x)]):=by kernel_rfl
theorem putC6_0 (a b c d e f x:Cu):ansQ Tryz.prog optsK 40 155 [(.fsl false [(cuA a),(cuA b),(cuA c),(cuA d),(cuA e),(cuA f)]),I 0,(cuA x)]=some (.fsl false [(cuA x),(cuA b),(cuA c),(cuA d),(cuA e),(cuA f)]):=by kernel_rfl
theorem putC6_1 (a b c d e f x:Cu):ansQ Tryz.prog optsK 40 155 [(.fsl false [(cuA a),(cuA b),(cuA c),(cuA d),(cuA e),(cuA f)]),I 1,(cuA x)]=some (.fsl false [(cuA a),(cuA x),(cuA c),(cuA d),(cuA e),(cuA f)]):=by kernel_rfl
theorem putC6_2 (a b c d e f x:Cu):ansQ Tryz.prog optsK 40 155 [(.fsl false [(cuA a),(cuA b),(cuA c),(cuA d),(cuA e),(cuA f)]),I 2,(cuA x)]=some (.fsl false [(cuA a),(cuA b),(cuA x),(cuA d),(cuA e),(cuA f)]):=by kernel_rfl
theorem putC6_3 (a b c d e f x:Cu):ansQ Tryz.prog optsK 40 155 [(.fsl false [(cuA a),(cuA b),(cuA c),(cuA d),(cuA e),(cuA f)]),I 3,(cuA x)]=some (.fsl false [(cuA a),(cuA b),(cuA c),(cuA x),(cuA e),(cuA f)]):=by kernel_rfl
theorem putC6_4 (a b c d e f x:Cu):ansQ Tryz.prog optsK 40 155 [(.fsl false [(cuA a),(cuA b),(cuA c),(cuA d),(cuA e),(cuA f)]),I 4,(cuA x)]=some (.fsl false [(cuA a),(cuA b),(cuA c),(cuA d),(cuA x),(cuA f)]):=by kernel_rfl
theorem putC6_5 (a b c d e f x:Cu):ansQ Tryz.prog optsK 40 155 [(.fsl false [(cuA a),(cuA b),(cuA c),(cuA d),(cuA e),(cuA f)]),I 5,(cuA x)]=some (.fsl false [(cuA a),(cuA b),(cuA c),(cuA d),(cuA e),(cuA x)]):=by kernel_rfl
theorem putC_sem:∀ (l:List (Cu)) (i:Nat) (x:Cu),i≤l.length→l.length≤6→i<6→SC 155 [.fsl false (l.map cuA),I (.ofNat i),(cuA x)] (.fsl false ((putL l i x).map cuA))
 |[],0,x,_,_,_=>SemCall.emptyAt (ansK rfl (putC0_0 x) rfl) (ansK rfl (putC0_0n x) rfl)
 |[a],0,x,_,_,_=>ansK rfl (putC1_0 a x) rfl
 |[a],1,x,_,_,_=>ansK rfl (putC1_1 a x) rfl
 |[a,b],0,x,_,_,_=>ansK rfl (putC2_0 a b x) rfl
 |[a,b],1,x,_,_,_=>ansK rfl (putC2_1 a b x) rfl
 |[a,b],2,x,_,_,_=>ansK rfl (putC2_2 a b x) rfl
 |[a,b,c],0,x,_,_,_=>ansK rfl (putC3_0 a b c x) rfl
 |[a,b,c],1,x,_,_,_=>ansK rfl (putC3_1 a b c x) rfl
 |[a,b,c],2,x,_,_,_=>ansK rfl (putC3_2 a b c x) rfl
 |[a,b,c],3,x,_,_,_=>ansK rfl (putC3_3 a b c x) rfl
 |[a,b,c,d],0,x,_,_,_=>ansK rfl (putC4_0 a b c d x) rfl
 |[a,b,c,d],1,x,_,_,_=>ansK rfl (putC4_1 a b c d x) rfl
 |[a,b,c,d],2,x,_,_,_=>ansK rfl (putC4_2 a b c d x) rfl
 |[a,b,c,d],3,x,_,_,_=>ansK rfl (putC4_3 a b c d x) rfl
 |[a,b,c,d],4,x,_,_,_=>ansK rfl (putC4_4 a b c d x) rfl
 |[a,b,c,d,e],0,x,_,_,_=>ansK rfl (putC5_0 a b c d e x) rfl
 |[a,b,c,d,e],1,x,_,_,_=>ansK rfl (putC5_1 a b c d e x) rfl
 |[a,b,c,d,e],2,x,_,_,_=>ansK rfl (putC5_2 a b c d e x) rfl
 |[a,b,c,d,e],3,x,_,_,_=>ansK rfl (putC5_3 a b c d e x) rfl
 |[a,b,c,d,e],4,x,_,_,_=>ansK rfl (putC5_4 a b c d e x) rfl
 |[a,b,c,d,e],5,x,_,_,_=>ansK rfl (putC5_5 a b c d e x) rfl
 |[a,b,c,d,e,f],0,x,_,_,_=>ansK rfl (putC6_0 a b c d e f x) rfl
 |[a,b,c,d,e,f],1,x,_,_,_=>ansK rfl (putC6_1 a b c d e f x) rfl
 |[a,b,c,d,e,f],2,x,_,_,_=>ansK rfl (putC6_2 a b c d e f x) rfl
 |[a,b,c,d,e,f],3,x,_,_,_=>ansK rfl (putC6_3 a b c d e f x) rfl
 |[a,b,c,d,e,f],4,x,_,_,_=>ansK rfl (putC6_4 a b c d e f x) rfl
 |[a,b,c,d,e,f],5,x,_,_,_=>ansK rfl (putC6_5 a b c d e f x) rfl
 |[],i+1,_,h,_,_=>absurd h (by simp)
 |[_],i+2,_,h,_,_=>absurd h (by simp)
 |[_,_],i+3,_,h,_,_=>absurd h (by simp)
 |[_,_,_],i+4,_,h,_,_=>absurd h (by simp)
 |[_,_,_,_],i+5,_,h,_,_=>absurd h (by simp)
 |[_,_,_,_,_],i+6,_,h,_,_=>absurd h (by simp)
 |[_,_,_,_,_,_],i+6,_,_,_,h=>absurd h (by omega)
 |_::_::_::_::_::_::_::_,_,_,_,h,_=>absurd h (by simp)
end Go.Proofs.YtjhggnebkfpgcaaGreatDoor
namespace Go.Proofs.YtjhggnebkfpgcaaGreatDoor
open Go Go.RowKit
open Go.Proofs.Abs
noncomputable section
theorem count_up {p:Nat→Prop} (n:Nat) (hn:p n) (hs:∀i,i<n→p (i+1)→p i):∀i,i≤n→p i:=by
 intro i hi
 obtain ⟨m,rfl⟩:∃m,n=i+m:=⟨n-i,by omega⟩
 clear hi
 induction m generalizing i with
 |zero=>exact hn
 |succ m ih=>exact hs i (by omega) (ih (i+1) (by rw[show i+1+m=i+(m+1) by omega];exact hn) (by intro j hj;exact hs j (by omega)))
abbrev u8 (b:UInt8):AV:= .int .u8 (.ofNat b.toNat)
theorem idxB {f:Bool} {s:List UInt8} {i:Nat} {b:UInt8} (hx:s[i]? =some b):indexAddrA Tryz.prog 23 (.fsl f (toBytes s)) (.int .i64 (.ofNat i))=some (.fptr [u8 b] 0):=
 fsl_index (v:=u8 b) (e:=5) (sz:=1) (by kernel_rfl) (by kernel_rfl) (by rw[toBytes_map,List.getElem?_map,hx];rfl) rfl
def eqV (D E:List AV) (i:Nat):View:=⟨[(0,.fsl false D),(1,.fsl false E),(4,.bool false),(12,I (.ofNat (lenN D))),(13,I (.ofNat i))],[],[],0,26⟩
def eqF:View:=⟨[(4,.bool false)],[],[],0,26⟩
def eqA (a b:UInt8):Aid:=aidJ [(6,2,.res (.fptr [u8 a] 0)),(6,6,.res (.fptr [u8 b] 0))] [] noSem [] []
@[simp] abbrev yi1:=(AV.bool false=AV.bool false∧true=true)
@[simp] abbrev yi2 (D:List AV):=(I (Int.ofNat (lenN D))=I (Int.ofNat (lenN D))∧closedA (I (Int.ofNat (lenN D)))=true)
@[simp] abbrev yi3 (D:List AV):=(AV.fsl false D=AV.fsl false D∧closedA (AV.fsl false D)=true)
@[simp] abbrev yi4 (E:List AV):=(AV.fsl false E=AV.fsl false E∧closedA (AV.fsl false E)=true)
theorem eq_round (D E:List AV) (i j:Nat) (a b:UInt8) (N:Prop) (Q:AExit→St→Prop):wpK Tryz.prog opts0 40 (eqA a b) (lpCode Tryz.prog 84 5) (eqV D E i).st (roundP 0 [] (eqV D E j) N [] eqF Q)=
  (mtB (ltInt (Int.ofNat i) (Int.ofNat (lenN D))) (indexAddrA Tryz.prog 23 (AV.fsl false D) (I (Int.ofNat i))=some (AV.fptr [AV.int IntKind.u8 (Int.ofNat a.toNat)] 0)∧indexAddrA Tryz.prog 23 (AV.fsl false E) (I (Int.ofNat i))=some (AV.fptr [AV.int IntKind.u8 (Int.ofNat b.toNat)] 0)∧mtB (!beqInt (Int.ofNat a.toNat) (Int.ofNat b.toNat)) (((yi1∧True)∧True∧True)∧Q AExit.ret eqF.st) ((((yi3 D)∧(yi4 E)∧yi1∧(yi2 D)∧(I (wrapA IntKind.i64 (Int.ofNat i+1))=I (Int.ofNat j)∧closedA (I (Int.ofNat j))=true)∧True)∧True∧True)∧N)) (((yi1∧True)∧True∧True)∧Q (AExit.exit 0) eqF.st)):=by kernel_rfl
def eqL (D E:List AV) (p:Prop) (r:Bool):LoopS:=fun s Q=>p∧seesK 0 [] (eqV D E 0) s∧mtB r (Q (.exit 0) eqF.st) (Q .ret eqF.st)
theorem eq_fn (D E:List AV) (p:Prop) (r:Bool) (Q:AV→Prop):fnK Tryz.prog opts0 40 (aidJ [] [(5,eqL D E p r)] noSem [] []) 84 [.fsl false D,.fsl false E] [] 0 (fun v _ _=>Q v)=
  (mtB (!beqInt (Int.ofNat (lenN D)) (Int.ofNat (lenN E))) (Q (AV.bool false)) (p∧(((yi3 D)∧(yi4 E)∧yi1∧(yi2 D)∧(I 0=I 0∧true=true)∧True)∧True∧True)∧mtB r (Q (AV.bool true)) (Q (AV.bool false)))):=by kernel_rfl
theorem beqBytes_cons (a b:UInt8) (s t:List UInt8):beqBytes (a::s) (b::t)=(Nat.beq a.toNat b.toNat&&beqBytes s t):=by
 rw[Bool.eq_iff_iff,Bool.and_eq_true,beqBytes_iff,beqBytes_iff,beq_iff,List.cons.injEq]
 exact and_congr_left fun _=>⟨fun h=>by rw[h],fun h=>UInt8.toNat_inj.1 h⟩
theorem beqInt_nat (a b:Nat):beqInt (.ofNat a) (.ofNat b)=Nat.beq a b:=rfl
theorem eq_loop {s t:List UInt8} {Q:AExit→St→Prop} (hl:s.length=t.length) (hb:s.length≤big):∀i,i≤s.length→(mtB (beqBytes (s.drop i) (t.drop i)) (Q (.exit 0) eqF.st) (Q .ret eqF.st)→ALp Tryz.prog opts0.glob 0 (lpCode Tryz.prog 84 5) (eqV (toBytes s) (toBytes t) i).st Q):=by
 refine count_up _ (fun hq=> ?_) (fun i hi ih hq=> ?_)
 ·refine ALp.round (A:=eqA 0 0) (V1:=eqV (toBytes s) (toBytes t) 0) (V2:=eqV (toBytes s) (toBytes t) 0) (F:=eqF) (lk:=[]) (lk':=[]) base0 aidJ_ok (LsOk.no rfl) .refl ?_
  rw[eq_round]
  refine mtB_of (fun h=> ?_) (fun _=> ?_)
  ·have h:=ltInt_iff.1 h
   simp only[lenN_toBytes,Int.ofNat_eq_natCast] at h
   omega
  ·rw[List.drop_of_length_le (by omega),List.drop_of_length_le (by omega)] at hq
   exact ⟨by simp,hq⟩
 ·have h2:i<t.length:=by omega
  have g1:=List.getElem?_eq_getElem hi
  have g2:=List.getElem?_eq_getElem h2
  rw[List.drop_eq_getElem_cons hi,List.drop_eq_getElem_cons h2,beqBytes_cons] at hq
  revert g1 g2 hq
  generalize s[i]=a
  generalize t[i]=b
  intro hq g1 g2
  refine ALp.round (A:=eqA a b) (V1:=eqV (toBytes s) (toBytes t) (i+1)) (V2:=eqV (toBytes s) (toBytes t) (i+1)) (F:=eqF) (lk:=[]) (lk':=[]) base0 aidJ_ok (LsOk.no rfl) .refl ?_
  rw[eq_round]
  have hb:s.length≤1099511627776:=hb
  refine mtB_of (fun _=>⟨idxB g1,idxB g2,mtB_of (fun h=> ?_) (fun h=> ?_)⟩) (fun h=> ?_)
  ·rw[beqInt_nat,Bool.not_eq_true'] at h
   rw[h] at hq
   exact ⟨by simp,hq⟩
  ·rw[beqInt_nat,Bool.not_eq_false'] at h
   rw[h] at hq
   rw[wrapA_i64 (by simp;omega) (by simp;omega)]
   exact ⟨by simp[closedA],ih hq⟩
  ·have h:=ltInt_false.1 h
   simp only[lenN_toBytes,Int.ofNat_eq_natCast] at h
   omega
theorem eq_at:loopsAt (fnCode Tryz.prog 84) 5=[lpCode Tryz.prog 84 5]:=by kernel_rfl
theorem beqBytes_len {s t:List UInt8} (h:beqBytes s t=true):s.length=t.length:=by rw[beqBytes_iff.1 h]
theorem equal_sem {s t:List UInt8} (hb:s.length≤big):SC 84 [.fsl false (toBytes s),.fsl false (toBytes t)] (.bool (beqBytes s t)):=by
 refine fnK_semV (A:=aidJ [] [(5,eqL (toBytes s) (toBytes t) (s.length=t.length) (beqBytes s t))] noSem [] []) base0 aidJ_ok
  (fnLs_of (LsOk.at1 rfl eq_at fun s Q hs=> .seen base0.glob hs.2.1 (eq_loop hs.1 hb 0 (by omega) (by simpa using hs.2.2)))) (by simp[closedAll,closedA]) rfl ?_
 rw[eq_fn]
 simp only[lenN_toBytes]
 refine mtB_of (fun e=> ?_) (fun e=>⟨?_,by simp[closedA],mtB_of (fun e6=>by rw[e6]) (fun e6=>by rw[e6])⟩)
 ·refine congrArg AV.bool ?_
  cases h:beqBytes s t with
  |false=>rfl
  |true=>
   rw[beqBytes_len h,Bool.not_eq_true',beqInt_false] at e
   exact absurd rfl e
 ·rw[Bool.not_eq_false',beqInt_iff] at e
  exact Int.ofNat.inj e
def efV (D E:List AV) (i:Nat):View:=⟨[(1,.fsl false E),(2,fnA 33),(6,.bool false),(15,.fsl false D),(16,I (.ofNat (lenN D))),(17,I (.ofNat i))],[],[],0,32⟩
def efF:View:=⟨[(6,.bool false)],[],[],0,32⟩
def efA (c c':List AV) (r:Bool):Aid:=aidJ [(5,1,.res (.fptr c 0)),(6,2,.res (.fptr c' 0))] [] (manyS [(33,.bool r)]) [] []
@[simp] abbrev yi5:=(AV.func (Fn.func 33) [] []=AV.func (Fn.func 33) [] []∧true=true)
theorem ef_round (a b c a' b' c':Int) (D E F K F' K':List AV) (i j:Nat) (r:Bool) (N:Prop) (Q:AExit→St→Prop):wpK Tryz.prog opts0 40 (efA (itF a b c F K) (itF a' b' c' F' K') r) (lpCode Tryz.prog 85 5) (efV D E i).st (roundP 0 [] (efV D E j) N [] efF Q)=
  (mtB (ltInt (Int.ofNat i) (Int.ofNat (lenN D))) (indexAddrA Tryz.prog 35 (AV.fsl false D) (I (Int.ofNat i))=some (AV.fptr [I a,I b,I c,AV.fsl false F,AV.fsl false K] 0)∧indexAddrA Tryz.prog 35 (AV.fsl false E) (I (Int.ofNat i))=some (AV.fptr [I a',I b',I c',AV.fsl false F',AV.fsl false K'] 0)∧SC 33 [AV.agg [I a,I b,I c,AV.fsl false F,AV.fsl false K],AV.agg [I a',I b',I c',AV.fsl false F',AV.fsl false K']] (AV.bool r)∧mtB (!r) (((yi1∧True)∧True∧True)∧Q AExit.ret efF.st) ((((yi4 E)∧yi5∧yi1∧(yi3 D)∧(yi2 D)∧(I (wrapA IntKind.i64 (Int.ofNat i+1))=I (Int.ofNat j)∧closedA (I (Int.ofNat j))=true)∧True)∧True∧True)∧N)) (((yi1∧True)∧True∧True)∧Q (AExit.exit 0) efF.st)):=by kernel_rfl
def efL (D E:List AV) (p:Prop) (r:Bool):LoopS:=fun s Q=>p∧seesK 0 [] (efV D E 0) s∧mtB r (Q (.exit 0) efF.st) (Q .ret efF.st)
theorem ef_fn (D E:List AV) (p:Prop) (r:Bool) (Q:AV→Prop):fnK Tryz.prog opts0 40 (aidJ [] [(5,efL D E p r)] noSem [] []) 85 [.fsl false D,.fsl false E,fnA 33] [] 0 (fun v _ _=>Q v)=
  (mtB (!beqInt (Int.ofNat (lenN D)) (Int.ofNat (lenN E))) (Q (AV.bool false)) (p∧(((yi4 E)∧yi5∧yi1∧(yi3 D)∧(yi2 D)∧(I 0=I 0∧true=true)∧True)∧True∧True)∧mtB r (Q (AV.bool true)) (Q (AV.bool false)))):=by kernel_rfl
theorem ts_fn (a b c a' b' c':Int) (F K F' K':List AV) (r r':Bool) (Q:AV→Prop):fnK Tryz.prog opts0 40 (aidJ [] [] (manyS [(84,.bool r),(85,.bool r')]) [] []) 33 [.agg (itF a b c F K),.agg (itF a' b' c' F' K')] [] 0 (fun v _ _=>Q v)=
  (mtB (beqInt a a') (mtB (beqInt b b') (mtB (beqInt c c') (SC 84 [AV.fsl false F,AV.fsl false F'] (AV.bool r)∧mtB r (SC 85 [AV.fsl false K,AV.fsl false K',AV.func (Fn.func 33) [] []] (AV.bool r')∧Q (AV.bool r')) (Q (AV.bool false))) (Q (AV.bool false))) (Q (AV.bool false))) (Q (AV.bool false))):=by kernel_rfl
theorem ef_loop {ks ks':List It} {Q:AExit→St→Prop} (hl:ks.length=ks'.length) (hb:ks.length≤big)
  (ihs:∀ (i:Nat) (x z:It),ks[i]? =some x→ks'[i]? =some z→SC 33 [itA x,itA z] (.bool (sameI x z))):
  ∀i,i≤ks.length→(mtB (sameIs (ks.drop i) (ks'.drop i)) (Q (.exit 0) efF.st) (Q .ret efF.st)→ALp Tryz.prog opts0.glob 0 (lpCode Tryz.prog 85 5) (efV (itAs ks) (itAs ks') i).st Q):=by
 refine count_up _ (fun hq=> ?_) (fun i hi ih hq=> ?_)
 ·refine ALp.round (A:=efA (itF 0 0 0 [] []) (itF 0 0 0 [] []) true) (V1:=efV (itAs ks) (itAs ks') 0) (V2:=efV (itAs ks) (itAs ks') 0) (F:=efF) (lk:=[]) (lk':=[]) base0 aidJ_ok (LsOk.no rfl) .refl ?_
  rw[ef_round]
  refine mtB_of (fun h=> ?_) (fun _=> ?_)
  ·have h:=ltInt_iff.1 h
   simp only[lenN_eq,its_length,Int.ofNat_eq_natCast] at h
   omega
  ·rw[List.drop_of_length_le (by omega),List.drop_of_length_le (by omega)] at hq
   exact ⟨by simp,hq⟩
 ·have h2:i<ks'.length:=by omega
  have g1:=List.getElem?_eq_getElem hi
  have g2:=List.getElem?_eq_getElem h2
  rw[List.drop_eq_getElem_cons hi,List.drop_eq_getElem_cons h2,sameIs] at hq
  have hs:=ihs i _ _ g1 g2
  revert g1 g2 hq hs
  generalize ks[i]=x
  generalize ks'[i]=z
  intro hq g1 g2 hs
  obtain ⟨a,b,c,e,l⟩:=x
  obtain ⟨a',b',c',e',l'⟩:=z
  refine ALp.round (A:=efA (itF a b c (toBytes e) (itAs l)) (itF a' b' c' (toBytes e') (itAs l')) (sameI (.mk a b c e l) (.mk a' b' c' e' l'))) (V1:=efV (itAs ks) (itAs ks') (i+1)) (V2:=efV (itAs ks) (itAs ks') (i+1)) (F:=efF) (lk:=[]) (lk':=[]) base0 aidJ_ok (LsOk.no rfl) .refl ?_
  rw[ef_round]
  have hb:ks.length≤1099511627776:=hb
  refine mtB_of (fun _=>⟨idxI g1,idxI g2,hs,mtB_of (fun h=> ?_) (fun h=> ?_)⟩) (fun h=> ?_)
  ·rw[Bool.not_eq_true'] at h
   rw[h] at hq
   exact ⟨by simp,hq⟩
  ·rw[Bool.not_eq_false'] at h
   rw[h] at hq
   rw[wrapA_i64 (by simp;omega) (by simp;omega)]
   exact ⟨by simp[closedA,closed_its],ih hq⟩
  ·have h:=ltInt_false.1 h
   simp only[lenN_eq,its_length,Int.ofNat_eq_natCast] at h
   omega
theorem ef_at:loopsAt (fnCode Tryz.prog 85) 5=[lpCode Tryz.prog 85 5]:=by kernel_rfl
theorem ef_sem {ks ks':List It} (hb:ks.length≤big)
  (ihs:∀ (i:Nat) (x z:It),ks[i]? =some x→ks'[i]? =some z→SC 33 [itA x,itA z] (.bool (sameI x z))):
  SC 85 [.fsl false (itAs ks),.fsl false (itAs ks'),fnA 33] (.bool (sameIs ks ks')):=by
 refine fnK_semV (A:=aidJ [] [(5,efL (itAs ks) (itAs ks') (ks.length=ks'.length) (sameIs ks ks'))] noSem [] []) base0 aidJ_ok
  (fnLs_of (LsOk.at1 rfl ef_at fun s Q hs=> .seen base0.glob hs.2.1 (ef_loop hs.1 hb ihs 0 (by omega) (by simpa using hs.2.2)))) (by simp[closedAll,closedA,closed_its,fnA]) rfl ?_
 rw[ef_fn]
 simp only[lenN_eq,its_length]
 refine mtB_of (fun e=> ?_) (fun e=>⟨?_,by simp[closedA,closed_its],mtB_of (fun e6=>by rw[e6]) (fun e6=>by rw[e6])⟩)
 ·refine congrArg AV.bool ?_
  cases h:sameIs ks ks' with
  |false=>rfl
  |true=>
   rw[sameIs_length h,Bool.not_eq_true',beqInt_false] at e
   exact absurd rfl e
 ·rw[Bool.not_eq_false',beqInt_iff] at e
  exact Int.ofNat.inj e
theorem ts_body {t y n t' y' n':Int} {d d':List UInt8} {ks ks':List It} (h:okI big (.mk t y n d ks))
  (ih:∀ (i:Nat) (x z:It),ks[i]? =some x→ks'[i]? =some z→SC 33 [itA x,itA z] (.bool (sameI x z))):
  SC 33 [itA (.mk t y n d ks),itA (.mk t' y' n' d' ks')] (.bool (sameI (.mk t y n d ks) (.mk t' y' n' d' ks'))):=by
 simp only[okI] at h
 obtain ⟨h3,h4,h5⟩:=h
 refine fnK_semV (A:=aidJ [] [] (manyS [(84,.bool (beqBytes d d')),(85,.bool (sameIs ks ks'))]) [] []) base0 aidJ_ok (fnLs_of (LsOk.no rfl)) (by simp[closedAll,closed_it]) rfl ?_
 rw[itA_F,itA_F,ts_fn]
 simp only[sameI]
 refine mtB_of (fun e=>mtB_of (fun e2=>mtB_of (fun e3=>⟨equal_sem h3,mtB_of (fun e4=>⟨ef_sem h4 ih, ?_⟩) (fun e4=> ?_)⟩) (fun e3=> ?_)) (fun e2=> ?_)) (fun e=> ?_)
 all_goals simp only[*,Bool.true_and,Bool.false_and]
mutual
theorem tsame_sem:∀x z:It,okI big x→SC 33 [itA x,itA z] (.bool (sameI x z))
 | .mk _ _ _ _ ks,.mk _ _ _ _ _ks',h=>ts_body h fun _i x z hx _=>tsame_sems ks x (List.mem_of_getElem? hx) z (okIs_iff.1 h.2.2 x (List.mem_of_getElem? hx))
theorem tsame_sems:∀ks:List It,∀x∈ks,∀z,okI big x→SC 33 [itA x,itA z] (.bool (sameI x z))
 |[],_,hx,_,_=>by cases hx
 |k::r,x,hx,z,h=>by
  have h1:=tsame_sem k z
  have h2:=tsame_sems r x
  rcases List.mem_cons.1 hx with e|hx
  ·rw[e] at h⊢;exact h1 h
  ·exact h2 hx z h
end
end
end Go.Proofs.YtjhggnebkfpgcaaGreatDoor
namespace Go.Proofs.YtjhggnebkfpgcaaGreatDoor
set_option maxRecDepth 20000
open Go Go.RowKit
open Go.Proofs.Abs
noncomputable section
def plV0 (s:List UInt8) (C:List AV) (i:Nat):View:=⟨[(1,.str s),(5,.nilsl),(9,.fsl false C),(10,I (.ofNat (lenN C))),(11,I (.ofNat i))],[],[],1,26⟩
def plV1 (s:List UInt8) (C:List AV) (i k:Nat) (es:List AV):View:=⟨[(1,.str s),(9,.fsl false C),(10,I (.ofNat (lenN C))),(11,I (.ofNat i))],[(5,.rsl true 0 0 k 1)],[(0,.cells es,.whole)],1,26⟩
def plA (n t:List UInt8):Aid:=aidJ [(4,1,.res (.fptr [.str n,.str t] 0))] [] noSem [] []
@[simp] abbrev yj1 (C:List AV):=(I (Int.ofNat (lenN C))=I (Int.ofNat (lenN C))∧closedA (I (Int.ofNat (lenN C)))=true)
@[simp] abbrev yj2 (C:List AV):=(AV.fsl false C=AV.fsl false C∧closedA (AV.fsl false C)=true)
@[simp] abbrev yj3 (s:List UInt8):=(AV.str s=AV.str s∧closedA (AV.str s)=true)
@[simp] abbrev yj5:=(AV.nilsl=AV.nilsl∧true=true)
@[simp] abbrev yj6 (i:Nat):=(I (Int.ofNat i)=I (Int.ofNat i)∧closedA (I (Int.ofNat i))=true)
theorem pl_00 (s:List UInt8) (C:List AV) (i j:Nat) (n t:List UInt8) (N:Prop) (Q:AExit→St→Prop):wpK Tryz.prog opts0 40 (plA n t) (lpCode Tryz.prog 151 4) (plV0 s C i).st (roundP 0 [] (plV0 s C j) N [] (plV0 s C i) Q)=
  (mtB (ltInt (Int.ofNat i) (Int.ofNat (lenN C))) (indexAddrA Tryz.prog 29 (AV.fsl false C) (I (Int.ofNat i))=some (AV.fptr [AV.str n,AV.str t] 0)∧mtB (beqBytes n s) ((((yj3 s)∧(AV.rsl true 15 0 (lenN [I (Int.ofNat i)]) 1=AV.nilsl∧true=true)∧(yj2 C)∧(yj1 C)∧(I (wrapA IntKind.i64 (Int.ofNat i+1))=I (Int.ofNat j)∧closedA (I (Int.ofNat j))=true)∧True)∧True∧True)∧N) ((((yj3 s)∧yj5∧(yj2 C)∧(yj1 C)∧(I (wrapA IntKind.i64 (Int.ofNat i+1))=I (Int.ofNat j)∧closedA (I (Int.ofNat j))=true)∧True)∧True∧True)∧N)) ((((yj3 s)∧yj5∧(yj2 C)∧(yj1 C)∧(yj6 i)∧True)∧True∧True)∧Q (AExit.exit 0) (plV0 s C i).st)):=by kernel_rfl
theorem pl_01 (s:List UInt8) (C:List AV) (i j k:Nat) (es:List AV) (n t:List UInt8) (N:Prop) (Q:AExit→St→Prop):wpK Tryz.prog opts0 40 (plA n t) (lpCode Tryz.prog 151 4) (plV0 s C i).st (roundP 0 [(0,15)] (plV1 s C j k es) N [] (plV0 s C i) Q)=
  (mtB (ltInt (Int.ofNat i) (Int.ofNat (lenN C))) (indexAddrA Tryz.prog 29 (AV.fsl false C) (I (Int.ofNat i))=some (AV.fptr [AV.str n,AV.str t] 0)∧mtB (beqBytes n s) ((((yj3 s)∧(yj2 C)∧(yj1 C)∧(I (wrapA IntKind.i64 (Int.ofNat i+1))=I (Int.ofNat j)∧closedA (I (Int.ofNat j))=true)∧True)∧((true=true∧some 15=some 15∧0=0∧k=lenN [I (Int.ofNat i)]∧1=1)∧True)∧(flat [I (Int.ofNat i)]=es∧closedAll es=true)∧True)∧N) ((((yj3 s)∧(yj2 C)∧(yj1 C)∧(I (wrapA IntKind.i64 (Int.ofNat i+1))=I (Int.ofNat j)∧closedA (I (Int.ofNat j))=true)∧True)∧(False∧True)∧False∧True)∧N)) ((((yj3 s)∧yj5∧(yj2 C)∧(yj1 C)∧(yj6 i)∧True)∧True∧True)∧Q (AExit.exit 0) (plV0 s C i).st)):=by kernel_rfl
@[simp] abbrev yj4 (C es:List AV) (Q:AExit→St→Prop) (i k:Nat) (s:List UInt8):=((((yj3 s)∧(yj2 C)∧(yj1 C)∧(yj6 i)∧True)∧((true=true∧some 0=some 0∧0=0∧k=k∧1=1)∧True)∧(es=es∧closedAll es=true)∧True)∧Q (AExit.exit 0) (plV1 s C i k es).st)
theorem pl_10 (s:List UInt8) (C:List AV) (i j k:Nat) (es:List AV) (n t:List UInt8) (N:Prop) (Q:AExit→St→Prop):wpK Tryz.prog opts0 40 (plA n t) (lpCode Tryz.prog 151 4) (plV1 s C i k es).st (roundP 0 [(0,0)] (plV1 s C j k es) N [(0,0)] (plV1 s C i k es) Q)=
  (mtB (ltInt (Int.ofNat i) (Int.ofNat (lenN C))) (indexAddrA Tryz.prog 29 (AV.fsl false C) (I (Int.ofNat i))=some (AV.fptr [AV.str n,AV.str t] 0)∧mtB (beqBytes n s) (oblB (allSize 1 [I (Int.ofNat i)]&&(((k+lenN [I (Int.ofNat i)])*8).ble 140737488355328&&(allOne (flat [I (Int.ofNat i)])&&true))) (oblB ((lenN es).beq (k*1)) ((((yj3 s)∧(yj2 C)∧(yj1 C)∧(I (wrapA IntKind.i64 (Int.ofNat i+1))=I (Int.ofNat j)∧closedA (I (Int.ofNat j))=true)∧True)∧((true=true∧some 0=some 15∧0=0∧k=k+lenN [I (Int.ofNat i)]∧1=1)∧True)∧False∧True)∧N))) ((((yj3 s)∧(yj2 C)∧(yj1 C)∧(I (wrapA IntKind.i64 (Int.ofNat i+1))=I (Int.ofNat j)∧closedA (I (Int.ofNat j))=true)∧True)∧((true=true∧some 0=some 0∧0=0∧k=k∧1=1)∧True)∧(es=es∧closedAll es=true)∧True)∧N)) (yj4 C es Q i k s)):=by kernel_rfl
theorem pl_11 (s:List UInt8) (C:List AV) (i j k k':Nat) (es es':List AV) (n t:List UInt8) (N:Prop) (Q:AExit→St→Prop):wpK Tryz.prog opts0 40 (plA n t) (lpCode Tryz.prog 151 4) (plV1 s C i k es).st (roundP 0 [(0,15)] (plV1 s C j k' es') N [(0,0)] (plV1 s C i k es) Q)=
  (mtB (ltInt (Int.ofNat i) (Int.ofNat (lenN C))) (indexAddrA Tryz.prog 29 (AV.fsl false C) (I (Int.ofNat i))=some (AV.fptr [AV.str n,AV.str t] 0)∧mtB (beqBytes n s) (oblB (allSize 1 [I (Int.ofNat i)]&&(((k+lenN [I (Int.ofNat i)])*8).ble 140737488355328&&(allOne (flat [I (Int.ofNat i)])&&true))) (oblB ((lenN es).beq (k*1)) ((((yj3 s)∧(yj2 C)∧(yj1 C)∧(I (wrapA IntKind.i64 (Int.ofNat i+1))=I (Int.ofNat j)∧closedA (I (Int.ofNat j))=true)∧True)∧((true=true∧some 15=some 15∧0=0∧k'=k+lenN [I (Int.ofNat i)]∧1=1)∧True)∧(es++flat [I (Int.ofNat i)]=es'∧closedAll es'=true)∧True)∧N))) ((((yj3 s)∧(yj2 C)∧(yj1 C)∧(I (wrapA IntKind.i64 (Int.ofNat i+1))=I (Int.ofNat j)∧closedA (I (Int.ofNat j))=true)∧True)∧((true=true∧some 15=some 0∧0=0∧k'=k∧1=1)∧True)∧False∧True)∧N)) (yj4 C es Q i k s)):=by kernel_rfl
def plL (s:List UInt8) (C:List AV) (F:View):LoopS:=fun st Q=>seesK 0 [] (plV0 s C 0) st∧Q (.exit 0) F.st
@[simp] abbrev yj7 (C:List AV) (s:List UInt8):=(((yj3 s)∧yj5∧(yj2 C)∧(yj1 C)∧(I 0=I 0∧true=true)∧True)∧True∧True)
theorem pl_fn0 (o:Ob) (M N L:AV) (s:List UInt8) (C:List AV) (Q:AV→Heap→Nat→Prop):fnK Tryz.prog opts0 40 (aidJ [] [(4,plL s C (plV0 s C (lenN C)))] noSem [] []) 151 [.agg (obF o M N L (.fsl false C)),.str s] [] 0 Q=
  ((yj7 C s)∧Q AV.nilsl [] 3):=by kernel_rfl
theorem pl_fn1 (o:Ob) (M N L:AV) (s:List UInt8) (C:List AV) (k:Nat) (es:List AV) (Q:AV→Heap→Nat→Prop):fnK Tryz.prog opts0 40 (aidJ [] [(4,plL s C (plV1 s C (lenN C) k es))] noSem [] []) 151 [.agg (obF o M N L (.fsl false C)),.str s] [] 0 Q=
  ((yj7 C s)∧Q (AV.rsl true 0 0 k 1) [(0,some (Blk.cells es))] 3):=by kernel_rfl
def placesL (s:List UInt8):List Cu→Nat→List Nat
 |[],_=>[]
 |c::r,k=>match beqBytes c.name s with
  |true=>k::placesL s r (k+1)
  |false=>placesL s r (k+1)
theorem placesL_snoc (s:List UInt8) (c:Cu):∀ (l:List Cu) (k:Nat),placesL s (l++[c]) k=placesL s l k++(match beqBytes c.name s with|true=>[k+l.length]|false=>[])
 |[],k=>by simp only[List.nil_append,placesL];cases beqBytes c.name s<;>simp
 |a::r,k=>by
  have ih:=placesL_snoc s c r (k+1)
  have e:k+1+r.length=k+(r.length+1):=by omega
  rw[e] at ih
  simp only[List.cons_append,placesL,ih,List.length_cons]
  cases beqBytes a.name s<;>simp
theorem take_snoc {α:Type} {l:List α} {i:Nat} {c:α} (h:l[i]? =some c):l.take (i+1)=l.take i++[c]:=by rw[List.take_add_one,h];rfl
theorem lt_of_some {α:Type} {l:List α} {i:Nat} {c:α} (h:l[i]? =some c):i<l.length:=by
 rcases Nat.lt_or_ge i l.length with h'|h'
 ·exact h'
 ·rw[List.getElem?_eq_none h'] at h;cases h
theorem placesL_succ {s:List UInt8} {l:List Cu} {i:Nat} {c:Cu} (h:l[i]? =some c):placesL s (l.take (i+1)) 0=placesL s (l.take i) 0++(match beqBytes c.name s with|true=>[i]|false=>[]):=by
 rw[take_snoc h,placesL_snoc,Nat.zero_add,List.length_take,Nat.min_eq_left (Nat.le_of_lt (lt_of_some h))]
theorem placesL_len (s:List UInt8):∀ (l:List Cu) (k:Nat),(placesL s l k).length≤l.length
 |[],_=>Nat.le_refl _
 |c::r,k=>by
  have:=placesL_len s r (k+1)
  simp only[placesL]
  split<;>simp<;>omega
theorem placesL_lt (s:List UInt8):∀ (l:List Cu) (k:Nat),∀x∈placesL s l k,k≤x∧x<k+l.length
 |[],_,x,h=>by cases h
 | c::r,k,x,h=>by
  have ih:=placesL_lt s r (k+1) x
  simp only[placesL] at h
  simp only[List.length_cons]
  split at h
  ·rcases List.mem_cons.1 h with rfl|h
   ·omega
   ·have:=ih h;omega
  ·have:=ih h;omega
def plV (s:List UInt8) (C:List AV) (i:Nat) (p:List Nat):View:=match p with
 |[]=>plV0 s C i
 |_::_=>plV1 s C i p.length (p.map nI)
theorem idxC {f:Bool} {l:List Cu} {i:Nat} {c:Cu} (hx:l[i]? =some c):indexAddrA Tryz.prog 29 (.fsl f (l.map cuA)) (.int .i64 (.ofNat i))=some (.fptr [.str c.name,.str c.text] 0):=
 fsl_index (v:=cuA c) (e:=101) (sz:=2) (by kernel_rfl) (by kernel_rfl) (by rw[List.getElem?_map,hx];rfl) rfl
theorem closed_nIs:∀p:List Nat,closedAll (p.map nI)=true
 |[]=>rfl
 |_::t=>closed_nIs t
theorem flat_nIs:∀p:List Nat,flat (p.map nI)=p.map nI
 |[]=>rfl
 |x::t=>by simp only[List.map_cons,flat,flat_nIs t];rfl
theorem pl_loop {s:List UInt8} {l:List Cu} {Q:AExit→St→Prop} (hb:l.length≤big) (hq:Q (.exit 0) (plV s (l.map cuA) l.length (placesL s l 0)).st):
    ∀i,i≤l.length→ALp Tryz.prog opts0.glob 0 (lpCode Tryz.prog 151 4) (plV s (l.map cuA) i (placesL s (l.take i) 0)).st Q:=by
  have hlen:lenN (l.map cuA)=l.length:=by rw[lenN_eq,List.length_map]
  have hcl:=closed_cus l
  have hb:l.length≤1099511627776:=hb
  refine count_up _ ?_ (fun i hi ih=> ?_)
  · rw[List.take_length]
    cases hp:placesL s l 0 with
    | nil=>
      rw[hp] at hq
      refine ALp.round (A:=plA [] []) (V1:=plV0 s (l.map cuA) 0) (V2:=plV0 s (l.map cuA) 0) (F:=plV0 s (l.map cuA) l.length) (lk:=[]) (lk':=[]) base0 aidJ_ok (LsOk.no rfl) .refl ?_
      simp only[plV]
      rw[pl_00]
      refine mtB_of (fun h=> ?_) (fun _=>⟨by simp[closedA,hcl],hq⟩)
      have h:=ltInt_iff.1 h
      simp only[hlen,Int.ofNat_eq_natCast] at h
      omega
    | cons a r=>
      rw[hp] at hq
      refine ALp.round (A:=plA [] []) (V1:=plV1 s (l.map cuA) 0 (a::r).length ((a::r).map nI)) (V2:=plV1 s (l.map cuA) 0 (a::r).length ((a::r).map nI)) (F:=plV1 s (l.map cuA) l.length (a::r).length ((a::r).map nI)) (lk:=[(0,0)]) (lk':=[(0,0)]) base0 aidJ_ok (LsOk.no rfl) .refl ?_
      simp only[plV]
      rw[pl_10]
      refine mtB_of (fun h=> ?_) (fun _=>⟨by simp[closedA,hcl,closed_nIs,closedAll,nI],hq⟩)
      have h:=ltInt_iff.1 h
      simp only[hlen,Int.ofNat_eq_natCast] at h
      omega
  · have g1:=List.getElem?_eq_getElem hi
    revert g1
    generalize l[i]=c
    intro g1
    have hs:=placesL_succ (s:=s) g1
    have hw:wrapA .i64 (Int.ofNat i+1)=Int.ofNat (i+1):=wrapA_i64 (by simp;omega) (by simp;omega)
    have hno:ltInt (Int.ofNat i) (Int.ofNat (lenN (l.map cuA)))=false→False:=fun h=>by
      have h:=ltInt_false.1 h
      simp only[hlen,Int.ofNat_eq_natCast] at h
      omega
    have hpl:(placesL s (l.take i) 0).length≤i:=by
      have:=placesL_len s (l.take i) 0
      rw[List.length_take] at this
      omega
    rw[hs] at ih
    clear hs
    revert ih hpl
    generalize placesL s (l.take i) 0=p
    intro ih hpl
    cases hc:beqBytes c.name s with
    | false=>
      rw[hc] at ih
      simp only[List.append_nil] at ih
      cases p with
      | nil=>
        refine ALp.round (A:=plA c.name c.text) (V1:=plV0 s (l.map cuA) (i+1)) (V2:=plV0 s (l.map cuA) (i+1)) (F:=plV0 s (l.map cuA) i) (lk:=[]) (lk':=[]) base0 aidJ_ok (LsOk.no rfl) .refl ?_
        simp only[plV] at ih⊢
        rw[pl_00]
        refine mtB_of (fun _=>⟨idxC g1,mtB_of (fun h=> ?_) (fun _=> ?_)⟩) (fun h=>(hno h).elim)
        · rw[hc] at h;cases h
        · rw[hw]
          exact ⟨by simp[closedA,hcl],ih⟩
      | cons a r=>
        refine ALp.round (A:=plA c.name c.text) (V1:=plV1 s (l.map cuA) (i+1) (a::r).length ((a::r).map nI)) (V2:=plV1 s (l.map cuA) (i+1) (a::r).length ((a::r).map nI)) (F:=plV1 s (l.map cuA) i (a::r).length ((a::r).map nI)) (lk:=[(0,0)]) (lk':=[(0,0)]) base0 aidJ_ok (LsOk.no rfl) .refl ?_
        simp only[plV] at ih⊢
        rw[pl_10]
        refine mtB_of (fun _=>⟨idxC g1,mtB_of (fun h=> ?_) (fun _=> ?_)⟩) (fun h=>(hno h).elim)
        · rw[hc] at h;cases h
        · rw[hw]
          exact ⟨by simp[closedA,hcl,closed_nIs,closedAll,nI],ih⟩
    | true=>
      rw[hc] at ih
      cases p with
      | nil=>
        refine ALp.round (A:=plA c.name c.text) (V1:=plV1 s (l.map cuA) (i+1) 1 [nI i]) (V2:=plV1 s (l.map cuA) (i+1) 1 [nI i]) (F:=plV0 s (l.map cuA) i) (lk:=[(0,15)]) (lk':=[]) base0 aidJ_ok (LsOk.no rfl) .refl ?_
        simp only[plV,List.nil_append] at ih⊢
        rw[pl_01]
        refine mtB_of (fun _=>⟨idxC g1,mtB_of (fun _=> ?_) (fun h=> ?_)⟩) (fun h=>(hno h).elim)
        · rw[hw]
          exact ⟨by simp[closedA,hcl,closedAll,nI,flat,AV.cells,lenN],ih⟩
        · rw[hc] at h;cases h
      | cons a r=>
        refine ALp.round (A:=plA c.name c.text) (V1:=plV1 s (l.map cuA) (i+1) ((a::r)++[i]).length (((a::r)++[i]).map nI)) (V2:=plV1 s (l.map cuA) (i+1) ((a::r)++[i]).length (((a::r)++[i]).map nI)) (F:=plV1 s (l.map cuA) i (a::r).length ((a::r).map nI)) (lk:=[(0,15)]) (lk':=[(0,0)]) base0 aidJ_ok (LsOk.no rfl) .refl ?_
        have ih:ALp Tryz.prog opts0.glob 0 (lpCode Tryz.prog 151 4) (plV1 s (l.map cuA) (i+1) ((a::r)++[i]).length (((a::r)++[i]).map nI)).st Q:=ih
        simp only[plV]
        rw[pl_11]
        refine mtB_of (fun _=>⟨idxC g1,mtB_of (fun _=>oblB_of ?_ (oblB_of ?_ ⟨?_,ih⟩)) (fun h=> ?_)⟩) (fun h=>(hno h).elim)
        · simp[allSize,lenN,AV.cells,flat,allOne]
          simp only[List.length_cons] at hpl
          omega
        · rw[beq_iff,lenN_eq,List.length_map,Nat.mul_one]
        · rw[hw]
          have:=closed_nIs r
          simp[closedA,hcl,closedAll,nI,flat,AV.cells,lenN] at this⊢
          exact closed_snoc r i
        · rw[hc] at h;cases h
 where
  closed_snoc:∀ (r:List Nat) (i:Nat),closedAll (List.map nI r++[AV.int .i64 (i:Int)])=true
    |[],_=>rfl
    |_::t,i=>closed_snoc t i
theorem pl_at:loopsAt (fnCode Tryz.prog 151) 4=[lpCode Tryz.prog 151 4]:=by kernel_rfl
def plcR (b:Nat):List Nat→AV
 |[]=> .nilsl
 |p@(_::_)=> .rsl true b 0 p.length 1
def plcH (b:Nat):List Nat→Heap
 |[]=>[]
 |p@(_::_)=>[(b,some (.cells (p.map nI)))]
theorem closed_obF (o:Ob) {M N L C:AV} (hM:closedA M=true) (hN:closedA N=true) (hL:closedA L=true) (hC:closedA C=true):closedAll (obF o M N L C)=true:=by
 simp only[obF,closedAll,closedA,hM,hN,hL,hC,Bool.and_self]
theorem places_body0 (o:Ob) {M N L:AV} (s:List UInt8) (_hM:closedA M=true) (_hN:closedA N=true) (_hL:closedA L=true) (hb:o.cust.length≤big):
  BodySem Tryz.prog opts0.glob 151 [.agg (obF o M N L (cusA o)),.str s] [] 0 (plcR 0 (placesL s o.cust 0)) (plcH 0 (placesL s o.cust 0)) 3:=by
 have hcl:=closed_cus o.cust
 have hlen:lenN (o.cust.map cuA)=o.cust.length:=by rw[lenN_eq,List.length_map]
 cases hp:placesL s o.cust 0 with
 | nil=>
  refine fnK_bodySem (A:=aidJ [] [(4,plL s (o.cust.map cuA) (plV0 s (o.cust.map cuA) (lenN (o.cust.map cuA))))] noSem [] []) base0 aidJ_ok
   (fnLs_of (LsOk.at1 rfl pl_at fun st Q hs=> .seen base0.glob hs.1 (pl_loop (s:=s) hb (by rw[hp];have:=hs.2;rw[hlen] at this;exact this) 0 (Nat.zero_le _)))) ?_
  simp only[cusA]
  rw[pl_fn0]
  exact ⟨by simp[closedA,hcl],rfl,rfl,rfl⟩
 | cons a r=>
  refine fnK_bodySem (A:=aidJ [] [(4,plL s (o.cust.map cuA) (plV1 s (o.cust.map cuA) (lenN (o.cust.map cuA)) (a::r).length ((a::r).map nI)))] noSem [] []) base0 aidJ_ok
   (fnLs_of (LsOk.at1 rfl pl_at fun st Q hs=> .seen base0.glob hs.1 (pl_loop (s:=s) hb (by rw[hp];have:=hs.2;rw[hlen] at this;exact this) 0 (Nat.zero_le _)))) ?_
  simp only[cusA]
  rw[pl_fn1]
  exact ⟨by simp[closedA,hcl],rfl,rfl,rfl⟩
theorem places_body (o:Ob) {M N L:AV} (s:List UInt8) (nx:Nat) (hM:closedA M=true) (hN:closedA N=true) (hL:closedA L=true) (hb:o.cust.length≤big):
  BodySem Tryz.prog opts0.glob 151 [.agg (obF o M N L (cusA o)),.str s] [] nx (plcR nx (placesL s o.cust 0)) (plcH nx (placesL s o.cust 0)) (nx+3):=by
 have h0:=places_body0 o s hM hN hL hb
 revert h0
 generalize placesL s o.cust 0=p
 intro h0
 have hcl:closedAll [.agg (obF o M N L (cusA o)),.str s]=true:=by simp only[closedAll,closedA,closed_obF o hM hN hL (closed_cusA o),Bool.and_self]
 cases p with
 |nil=>exact bodySem_shift base0.glob hcl h0 (.same _ rfl) fun i b2 hi=>by cases hi
 | cons a r=>
  refine bodySem_shift base0.glob hcl h0 (.rsl _ _ _ _ _ _ (by rw[lookN_shl,if_pos (by omega)];simp)) fun i b2 hi=> ?_
  simp only[plcH,hget] at hi
  split at hi
  ·rename_i he
   have he:=beq_iff.1 he
   simp only[Option.some.injEq] at hi
   subst he;subst hi
   exact ⟨0,_,by rw[lookN_shl,if_pos (by omega)];simp,rfl,RenL.same _ (closed_nIs (a::r))⟩
  ·cases hi
end
end Go.Proofs.YtjhggnebkfpgcaaGreatDoor
namespace Go.Proofs.YtjhggnebkfpgcaaGreatDoor
open Go Go.RowKit
open Go.Proofs.Abs
noncomputable section
structure RowH where
 nm:List UInt8
 ty:Int
 many:Bool
 set:Bool
def rowW (h:RowH) (A1 A2 A3 G R P D RM:AV):List AV:=[.str h.nm,I h.ty,.bool h.many,.bool h.set,A1,A2,A3,G,R,P,D,RM]
def laA (O O':List AV) (snd:Bool):SemT:=fun f args _ _=>match args with
 | .ptr b _::_=>some (.part [b] (.tuple []) [(b,some (.cells O'))] 100)
 |_=>match Nat.beq f 82 with
  |true=>some (.val (.agg O))
  |false=>some (.val (.bool snd))
abbrev yk1 (Da Ks:List AV) (n t y:Int):=[I t,I y,I n,AV.fsl false Da,AV.fsl false Ks]
abbrev yk9 (C' L' M' N':AV) (o':Ob):=(fitsT Tryz.prog 33 (AV.agg (obF o' M' N' L' C')) 37)
abbrev yk10:=(AV.tuple [AV.agg zL,I 7])
theorem laid_fn (h:RowH) (A1 A2 A3 G R D RM:AV) (pf:Nat) (pc:List AV) (o o':Ob) (M N L C M' N' L' C':AV) (an:List UInt8) (i t y n:Int) (Da Ks:List AV) (snd:Bool) (Q:AV→Prop):fnK Tryz.prog opts0 40 (aidJ [] [] (laA (obF o M N L C) (obF o' M' N' L' C') snd) [] []) 73 [.agg (rowW h A1 A2 A3 G R (fnC pf pc) D RM),.agg (obF o M N L C),.agg (.str an::I i::itF t y n Da Ks)] [] 0 (fun v _ _=>Q v)=
  (SC 82 [AV.agg (obF o M N L C)] (AV.agg (obF o M N L C))∧oblB (fitsT Tryz.prog 33 (AV.agg (obF o M N L C)) 37) (BodySem Tryz.prog opts0.glob pf (AV.ptr 1 0::I i::AV.agg (yk1 Da Ks n t y)::pc) [(1,some (Blk.cells (obF o M N L C)))] 15 (AV.tuple []) [(1,some (Blk.cells (obF o' M' N' L' C')))] 115∧SC 26 [AV.agg (obF o' M' N' L' C')] (AV.bool snd)∧mtB (!snd) (Q yk10) (oblB (yk9 C' L' M' N' o') (Q (AV.tuple [AV.agg (obF o' M' N' L' C'),I 0]))))):=by kernel_rfl
def thA (G:List AV) (c:List AV):Aid:=aidJ [(2,15,.res (.fptr c 0))] [] (fun _ _ _ _=>some (.val (.fsl false G))) [] []
theorem there_fn (h:RowH) (A1 A2 A3 R P D RM:AV) (gf:Nat) (gc:List AV) (o:Ob) (M N L C:AV) (G:List AV) (t y n:Int) (Da Ks:List AV) (Q:AV→Prop):fnK Tryz.prog opts0 40 (thA G (itF t y n Da Ks)) 113 [.agg (rowW h A1 A2 A3 (fnC gf gc) R P D RM),.agg (obF o M N L C)] [] 0 (fun v _ _=>Q v)=
  (SC gf (AV.agg (obF o M N L C)::gc) (AV.fsl false G)∧mtB (!h.3) (mtB (beqInt (Int.ofNat (lenN G)) 1) (mtB (beqInt h.2 2) (indexAddrA Tryz.prog 35 (AV.fsl false G) (I 0)=some (AV.fptr (yk1 Da Ks n t y) 0)∧mtB (beqInt n 0) (Q (I 0)) (Q (I (Int.ofNat (lenN G))))) (Q (I (Int.ofNat (lenN G))))) (Q (I (Int.ofNat (lenN G))))) (Q (I (Int.ofNat (lenN G))))):=by kernel_rfl
def twV (W:List AV) (G:List AV) (t y n:Int) (Da Ks:List AV) (but:Int) (i:Nat):View:=⟨[(3,I but),(8,.bool false),(14,.fsl false G),(15,I (.ofNat (lenN G))),(16,I (.ofNat i))],[(4,.ptr 0 0),(6,.ptr 1 0)],[(0,.cells W,.whole),(1,.cells (itF t y n Da Ks),.whole)],3,34⟩
def twF (b:Bool):View:=⟨[(8,.bool b)],[],[],3,34⟩
def twA (c:List AV) (r:Bool):Aid:=aidJ [(3,1,.res (.fptr c 0))] [] (manyS [(33,.bool r)]) [] []
@[simp] abbrev yk4 (A1 A2 A3 D Ge P R RM:AV) (h:RowH):=([AV.str h.1,I h.2,AV.bool h.3,AV.bool h.4,A1,A2,A3,Ge,R,P,D,RM]=[AV.str h.1,I h.2,AV.bool h.3,AV.bool h.4,A1,A2,A3,Ge,R,P,D,RM]∧closedAll [AV.str h.1,I h.2,AV.bool h.3,AV.bool h.4,A1,A2,A3,Ge,R,P,D,RM]=true)
@[simp] abbrev yk7 (G:List AV):=(I (Int.ofNat (lenN G))=I (Int.ofNat (lenN G))∧closedA (I (Int.ofNat (lenN G)))=true)
@[simp] abbrev yk11 (G:List AV):=(AV.fsl false G=AV.fsl false G∧closedA (AV.fsl false G)=true)
@[simp] abbrev yk13 (Da Ks:List AV) (n t y:Int):=((yk1 Da Ks n t y)=(yk1 Da Ks n t y)∧closedAll (yk1 Da Ks n t y)=true)
@[simp] abbrev yk14:=((some 0=some 0∧0=0)∧(some 1=some 1∧0=0)∧True)
@[simp] abbrev yk15:=(AV.bool false=AV.bool false∧true=true)
@[simp] abbrev yk17 (but:Int):=(I but=I but∧closedA (I but)=true)
theorem tw_round (h:RowH) (A1 A2 A3 Ge R P D RM:AV) (G:List AV) (t y n:Int) (Da Ks:List AV) (but:Int) (i j:Nat) (a b c:Int) (E F:List AV) (r q:Bool) (N:Prop) (Q:AExit→St→Prop):wpK Tryz.prog opts0 40 (twA (itF a b c E F) r) (lpCode Tryz.prog 72 3) (twV (rowW h A1 A2 A3 Ge R P D RM) G t y n Da Ks but i).st (roundP 0 [(0,0),(1,1)] (twV (rowW h A1 A2 A3 Ge R P D RM) G t y n Da Ks but j) N [] (twF q) Q)=
  (mtB (ltInt (Int.ofNat i) (Int.ofNat (lenN G))) (indexAddrA Tryz.prog 35 (AV.fsl false G) (I (Int.ofNat i))=some (AV.fptr [I a,I b,I c,AV.fsl false E,AV.fsl false F] 0)∧mtB (!beqInt (Int.ofNat i) but) (mtB h.3 (SC 33 [AV.agg [I a,I b,I c,AV.fsl false E,AV.fsl false F],AV.agg (yk1 Da Ks n t y)] (AV.bool r)∧mtB r ((((AV.bool true=AV.bool q∧closedA (AV.bool q)=true)∧True)∧True∧True)∧Q AExit.ret (twF q).st) ((((yk17 but)∧yk15∧(yk11 G)∧(yk7 G)∧(I (wrapA IntKind.i64 (Int.ofNat i+1))=I (Int.ofNat j)∧closedA (I (Int.ofNat j))=true)∧True)∧yk14∧(yk4 A1 A2 A3 D Ge P R RM h)∧(yk13 Da Ks n t y)∧True)∧N)) ((((yk17 but)∧yk15∧(yk11 G)∧(yk7 G)∧(I (wrapA IntKind.i64 (Int.ofNat i+1))=I (Int.ofNat j)∧closedA (I (Int.ofNat j))=true)∧True)∧yk14∧(yk4 A1 A2 A3 D Ge P R RM h)∧(yk13 Da Ks n t y)∧True)∧N)) ((((yk17 but)∧yk15∧(yk11 G)∧(yk7 G)∧(I (wrapA IntKind.i64 (Int.ofNat i+1))=I (Int.ofNat j)∧closedA (I (Int.ofNat j))=true)∧True)∧yk14∧(yk4 A1 A2 A3 D Ge P R RM h)∧(yk13 Da Ks n t y)∧True)∧N)) ((((AV.bool false=AV.bool q∧closedA (AV.bool q)=true)∧True)∧True∧True)∧Q (AExit.exit 0) (twF q).st)):=by kernel_rfl
def twL (W:List AV) (G:List AV) (t y n:Int) (Da Ks:List AV) (but:Int) (q:Bool):LoopS:=fun s Q=>seesK 0 [(0,0),(1,2)] (twV W G t y n Da Ks but 0) s∧mtB q (Q .ret (twF true).st) (Q (.exit 0) (twF false).st)
theorem tw_fn (h:RowH) (A1 A2 A3 R P D RM:AV) (gf:Nat) (gc:List AV) (o:Ob) (M N L C:AV) (G:List AV) (t y n:Int) (Da Ks:List AV) (but:Int) (q:Bool) (Q:AV→Prop):fnK Tryz.prog opts0 40 (aidJ [] [(3,twL (rowW h A1 A2 A3 (fnC gf gc) R P D RM) G t y n Da Ks but q)] (fun _ _ _ _=>some (.val (.fsl false G))) [] []) 72 [.agg (rowW h A1 A2 A3 (fnC gf gc) R P D RM),.agg (obF o M N L C),.agg (itF t y n Da Ks),I but] [] 0 (fun v _ _=>Q v)=
  (SC gf (AV.agg (obF o M N L C)::gc) (AV.fsl false G)∧(((yk17 but)∧yk15∧(yk11 G)∧(yk7 G)∧(I 0=I 0∧true=true)∧True)∧((some 0=some 0∧0=0)∧(some 2=some 2∧0=0)∧True)∧([AV.str h.1,I h.2,AV.bool h.3,AV.bool h.4,A1,A2,A3,AV.func (Fn.func gf) [] gc,R,P,D,RM]=[AV.str h.1,I h.2,AV.bool h.3,AV.bool h.4,A1,A2,A3,AV.func (Fn.func gf) [] gc,R,P,D,RM]∧closedAll [AV.str h.1,I h.2,AV.bool h.3,AV.bool h.4,A1,A2,A3,AV.func (Fn.func gf) [] gc,R,P,D,RM]=true)∧(yk13 Da Ks n t y)∧True)∧mtB q (Q (AV.bool true)) (Q (AV.bool false))):=by kernel_rfl
def moA (th:Int) (right room twice:Bool) (la:AV):SemT:=fun f args _ _=>match args with
 | .agg a::rest=>match Nat.beq (lenN a) 12 with
  | true=>match Nat.beq f 113 with
   |true=>some (.val (I th))
   |false=>match Nat.beq f 72 with
    |true=>some (.val (.bool twice))
    |false=>some (.val la)
  |false=>match rest with
   | .agg _::_=>some (.val (.bool right))
   |_=>some (.val (.bool room))
 |_=>none
abbrev yk2 (A1 A2 A3 D G P:AV) (h:RowH) (mf rf:Nat) (rc:List AV):=[AV.str h.1,I h.2,AV.bool h.3,AV.bool h.4,A1,A2,A3,G,AV.func (Fn.func rf) [] rc,P,D,AV.func (Fn.func mf) [] []]
abbrev yk5 (C' L' M' N':AV) (e:Int) (o':Ob):=(AV.tuple [AV.agg (obF o' M' N' L' C'),I e])
abbrev yk6:=(AV.tuple [AV.agg zL,I 11])
abbrev yk8 (Da Ks:List AV) (an:List UInt8) (i n t y:Int):=[AV.str an,I i,I t,I y,I n,AV.fsl false Da,AV.fsl false Ks]
abbrev yk12:=(AV.tuple [AV.agg zL,I 14])
abbrev yk16 (C L M N:AV) (Da Ks rc:List AV) (n t y:Int) (o:Ob):=(AV.agg (obF o M N L C)::AV.agg (yk1 Da Ks n t y)::rc)
abbrev yk18:=(AV.tuple [AV.agg zL,I 12])
theorem more_fn (h:RowH) (A1 A2 A3 G P D:AV) (rf:Nat) (rc:List AV) (mf:Nat) (o o':Ob) (M N L C M' N' L' C':AV) (an:List UInt8) (i t y n:Int) (Da Ks:List AV) (th e:Int) (right room twice:Bool) (Q:AV→Prop):fnK Tryz.prog opts0 40 (aidJ [] [] (moA th right room twice (.tuple [.agg (obF o' M' N' L' C'),I e])) [70] []) 62 [.agg (rowW h A1 A2 A3 G (fnC rf rc) P D (fnA mf)),.agg (obF o M N L C),.agg (.str an::I i::itF t y n Da Ks)] [] 0 (fun v _ _=>Q v)=
  (SC 113 [AV.agg (yk2 A1 A2 A3 D G P h mf rf rc),AV.agg (obF o M N L C)] (I th)∧mtB (!h.3) (mtB (!h.3) (SC rf (yk16 C L M N Da Ks rc n t y o) (AV.bool right)∧SC mf [AV.agg (obF o M N L C)] (AV.bool room)∧SC 72 [AV.agg (yk2 A1 A2 A3 D G P h mf rf rc),AV.agg (obF o M N L C),AV.agg (yk1 Da Ks n t y),I (Int.negSucc 0)] (AV.bool twice)∧mtB (!beqInt i 0) (Q yk12) (mtB (ltInt 0 th) (Q yk6) (mtB (!right) (Q yk10) (mtB (!room) (Q yk18) (mtB twice (Q yk6) (SC 73 [AV.agg (yk2 A1 A2 A3 D G P h mf rf rc),AV.agg (obF o M N L C),AV.agg (yk8 Da Ks an i n t y)] (yk5 C' L' M' N' e o')∧oblB (yk9 C' L' M' N' o') (Q (yk5 C' L' M' N' e o')))))))) (SC rf (yk16 C L M N Da Ks rc n t y o) (AV.bool right)∧SC mf [AV.agg (obF o M N L C)] (AV.bool room)∧SC 72 [AV.agg (yk2 A1 A2 A3 D G P h mf rf rc),AV.agg (obF o M N L C),AV.agg (yk1 Da Ks n t y),I (Int.negSucc 0)] (AV.bool twice)∧mtB (!beqInt i 0) (Q yk12) (mtB (!right) (Q yk10) (mtB (!room) (Q yk18) (mtB twice (Q yk6) (SC 73 [AV.agg (yk2 A1 A2 A3 D G P h mf rf rc),AV.agg (obF o M N L C),AV.agg (yk8 Da Ks an i n t y)] (yk5 C' L' M' N' e o')∧oblB (yk9 C' L' M' N' o') (Q (yk5 C' L' M' N' e o')))))))) (mtB (!h.3) (SC rf (yk16 C L M N Da Ks rc n t y o) (AV.bool right)∧SC mf [AV.agg (obF o M N L C)] (AV.bool room)∧SC 72 [AV.agg (yk2 A1 A2 A3 D G P h mf rf rc),AV.agg (obF o M N L C),AV.agg (yk1 Da Ks n t y),I (Int.negSucc 0)] (AV.bool twice)∧mtB (!beqInt i th) (Q yk12) (mtB (ltInt 0 th) (Q yk6) (mtB (!right) (Q yk10) (mtB (!room) (Q yk18) (mtB twice (Q yk6) (SC 73 [AV.agg (yk2 A1 A2 A3 D G P h mf rf rc),AV.agg (obF o M N L C),AV.agg (yk8 Da Ks an i n t y)] (yk5 C' L' M' N' e o')∧oblB (yk9 C' L' M' N' o') (Q (yk5 C' L' M' N' e o')))))))) (SC rf (yk16 C L M N Da Ks rc n t y o) (AV.bool right)∧SC mf [AV.agg (obF o M N L C)] (AV.bool room)∧SC 72 [AV.agg (yk2 A1 A2 A3 D G P h mf rf rc),AV.agg (obF o M N L C),AV.agg (yk1 Da Ks n t y),I (Int.negSucc 0)] (AV.bool twice)∧mtB (!beqInt i th) (Q yk12) (mtB (!right) (Q yk10) (mtB (!room) (Q yk18) (mtB twice (Q yk6) (SC 73 [AV.agg (yk2 A1 A2 A3 D G P h mf rf rc),AV.agg (obF o M N L C),AV.agg (yk8 Da Ks an i n t y)] (yk5 C' L' M' N' e o')∧oblB (yk9 C' L' M' N' o') (Q (yk5 C' L' M' N' e o'))))))))):=by kernel_rfl
abbrev yk3 (A1 A2 A3 D G P:AV) (h:RowH) (rc:List AV) (rf:Nat):=[AV.str h.1,I h.2,AV.bool h.3,AV.bool h.4,A1,A2,A3,G,AV.func (Fn.func rf) [] rc,P,D,AV.nilFunc]
theorem more_fn0 (h:RowH) (A1 A2 A3 G P D:AV) (rf:Nat) (rc:List AV) (o o':Ob) (M N L C M' N' L' C':AV) (an:List UInt8) (i t y n:Int) (Da Ks:List AV) (th e:Int) (right room twice:Bool) (Q:AV→Prop):fnK Tryz.prog opts0 40 (aidJ [] [] (moA th right room twice (.tuple [.agg (obF o' M' N' L' C'),I e])) [70] []) 62 [.agg (rowW h A1 A2 A3 G (fnC rf rc) P D .nilFunc),.agg (obF o M N L C),.agg (.str an::I i::itF t y n Da Ks)] [] 0 (fun v _ _=>Q v)=
  (SC 113 [AV.agg (yk3 A1 A2 A3 D G P h rc rf),AV.agg (obF o M N L C)] (I th)∧mtB (!h.3) (mtB (!h.3) (SC rf (yk16 C L M N Da Ks rc n t y o) (AV.bool right)∧SC 72 [AV.agg (yk3 A1 A2 A3 D G P h rc rf),AV.agg (obF o M N L C),AV.agg (yk1 Da Ks n t y),I (Int.negSucc 0)] (AV.bool twice)∧mtB (!beqInt i 0) (Q yk12) (mtB (ltInt 0 th) (Q yk6) (mtB (!right) (Q yk10) (mtB twice (Q yk6) (SC 73 [AV.agg (yk3 A1 A2 A3 D G P h rc rf),AV.agg (obF o M N L C),AV.agg (yk8 Da Ks an i n t y)] (yk5 C' L' M' N' e o')∧oblB (yk9 C' L' M' N' o') (Q (yk5 C' L' M' N' e o'))))))) (SC rf (yk16 C L M N Da Ks rc n t y o) (AV.bool right)∧SC 72 [AV.agg (yk3 A1 A2 A3 D G P h rc rf),AV.agg (obF o M N L C),AV.agg (yk1 Da Ks n t y),I (Int.negSucc 0)] (AV.bool twice)∧mtB (!beqInt i 0) (Q yk12) (mtB (!right) (Q yk10) (mtB twice (Q yk6) (SC 73 [AV.agg (yk3 A1 A2 A3 D G P h rc rf),AV.agg (obF o M N L C),AV.agg (yk8 Da Ks an i n t y)] (yk5 C' L' M' N' e o')∧oblB (yk9 C' L' M' N' o') (Q (yk5 C' L' M' N' e o'))))))) (mtB (!h.3) (SC rf (yk16 C L M N Da Ks rc n t y o) (AV.bool right)∧SC 72 [AV.agg (yk3 A1 A2 A3 D G P h rc rf),AV.agg (obF o M N L C),AV.agg (yk1 Da Ks n t y),I (Int.negSucc 0)] (AV.bool twice)∧mtB (!beqInt i th) (Q yk12) (mtB (ltInt 0 th) (Q yk6) (mtB (!right) (Q yk10) (mtB twice (Q yk6) (SC 73 [AV.agg (yk3 A1 A2 A3 D G P h rc rf),AV.agg (obF o M N L C),AV.agg (yk8 Da Ks an i n t y)] (yk5 C' L' M' N' e o')∧oblB (yk9 C' L' M' N' o') (Q (yk5 C' L' M' N' e o'))))))) (SC rf (yk16 C L M N Da Ks rc n t y o) (AV.bool right)∧SC 72 [AV.agg (yk3 A1 A2 A3 D G P h rc rf),AV.agg (obF o M N L C),AV.agg (yk1 Da Ks n t y),I (Int.negSucc 0)] (AV.bool twice)∧mtB (!beqInt i th) (Q yk12) (mtB (!right) (Q yk10) (mtB twice (Q yk6) (SC 73 [AV.agg (yk3 A1 A2 A3 D G P h rc rf),AV.agg (obF o M N L C),AV.agg (yk8 Da Ks an i n t y)] (yk5 C' L' M' N' e o')∧oblB (yk9 C' L' M' N' o') (Q (yk5 C' L' M' N' e o')))))))):=by kernel_rfl
end
def fiT (W:List AV):AV:= .tuple [.agg W,.bool true]
noncomputable def adA (fi la:AV) (may:Bool):SemT:=fun _ args _ _=>match args with
 | .str _::_=>some (.val fi)
 | .agg a::rest=>match Nat.beq (lenN a) 12 with
  |true=>some (.val la)
  |false=>match rest with
   |[]=>some (.val (.bool may))
   |_=>none
 |_=>none
theorem set_none (o:Ob) (M N L C:AV) (an:List UInt8) (i t y n:Int) (Da Ks:List AV) (Q:AV→Prop):fnK Tryz.prog opts0 40 (aidJ [] [] (adA (rowO none) .nilsl true) [] []) 18 [.agg (obF o M N L C),.agg (.str an::I i::itF t y n Da Ks)] [] 0 (fun v _ _=>Q v)=
  (SC 61 [AV.str an] (AV.tuple [AV.agg [AV.str [],I 0,AV.bool false,AV.bool false,AV.nilFunc,AV.nilFunc,AV.nilFunc,AV.nilFunc,AV.nilFunc,AV.nilFunc,AV.nilFunc,AV.nilFunc],AV.bool false])∧Q (AV.tuple [AV.agg zL,I 7])):=by kernel_rfl
theorem set_fn (h:RowH) (A1 A2 A3 G R P D RM:AV) (o o':Ob) (M N L C M' N' L' C':AV) (an:List UInt8) (i t y n:Int) (Da Ks:List AV) (e:Int) (Q:AV→Prop):fnK Tryz.prog opts0 40 (aidJ [] [] (adA (fiT (rowW h A1 A2 A3 G R P D RM)) (.tuple [.agg (obF o' M' N' L' C'),I e]) true) [] []) 18 [.agg (obF o M N L C),.agg (.str an::I i::itF t y n Da Ks)] [] 0 (fun v _ _=>Q v)=
  (SC 61 [AV.str an] (AV.tuple [AV.agg [AV.str h.1,I h.2,AV.bool h.3,AV.bool h.4,A1,A2,A3,G,R,P,D,RM],AV.bool true])∧oblB (fitsT Tryz.prog 89 (AV.agg [AV.str h.1,I h.2,AV.bool h.3,AV.bool h.4,A1,A2,A3,G,R,P,D,RM]) 12) (mtB (!h.4) (Q (AV.tuple [AV.agg zL,I 7])) (SC 62 [AV.agg [AV.str h.1,I h.2,AV.bool h.3,AV.bool h.4,A1,A2,A3,G,R,P,D,RM],AV.agg (obF o M N L C),AV.agg [AV.str an,I i,I t,I y,I n,AV.fsl false Da,AV.fsl false Ks]] (AV.tuple [AV.agg (obF o' M' N' L' C'),I e])∧oblB (fitsT Tryz.prog 33 (AV.agg (obF o' M' N' L' C')) 37) (Q (AV.tuple [AV.agg (obF o' M' N' L' C'),I e]))))):=by kernel_rfl
end Go.Proofs.YtjhggnebkfpgcaaGreatDoor
