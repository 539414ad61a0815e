import Derived.Test.YtjmnheinkchlfaaGreatDoorRows
import Derived.LaidByTextLater
import Derived.SevenTiedAt
import Derived.KernelRfl
namespace Go.Proofs.YtjmnheinkchlfaaGreatDoor
open Go
theorem pin_laid_unicode_utf8_first:Tryz.pinned.checked.prog.pinnedFits "unicode/utf8.first" =true:=by kernel_rfl
theorem noOwnUnsafe:Tryz.pinned.checked.prog.headLifts.contains "ownunsafe" =false:=by kernel_rfl
theorem fits1:Tryz.pinned.checked.prog.listedFits [("unicode/utf8.first",Rows.laid_unicode_utf8_first),("unicode/utf8.acceptRanges",Rows.laid_unicode_utf8_acceptRanges),("strconv.ErrSyntax",Rows.laid_strconv_ErrSyntax),("strconv.ErrRange",Rows.laid_strconv_ErrRange),("internal/strconv.uint64pow10",Rows.laid_internal_strconv_uint64pow10),("math/bits.deBruijn32tab",Rows.laid_math_bits_deBruijn32tab),("math/bits.deBruijn64tab",Rows.laid_math_bits_deBruijn64tab)]=true:=by
 unfold Program.listedFits
 rw[noOwnUnsafe]
 kernel_rfl
def tieL:List (String × DataW Unit):=[("unicode/utf8.acceptRanges",Rows.laid_unicode_utf8_acceptRanges),("strconv.ErrSyntax",Rows.laid_strconv_ErrSyntax),("strconv.ErrRange",Rows.laid_strconv_ErrRange),("internal/strconv.uint64pow10",Rows.laid_internal_strconv_uint64pow10),("math/bits.deBruijn32tab",Rows.laid_math_bits_deBruijn32tab),("math/bits.deBruijn64tab",Rows.laid_math_bits_deBruijn64tab)]
theorem vb:Tryz.prog.worded (varsWordLater true)=true:=by kernel_rfl
theorem vc:Tryz.prog.worded (varsWordLater !true)=false:=by kernel_rfl
theorem vd:Tryz.prog.worded rootWordLater=true:=by kernel_rfl
theorem ve:tieL.map (fun x=>Tryz.prog.kindOfLater x.1)=([.data,.sentinel,.sentinel,.data,.data,.data]:List LaidKind).map some:=by kernel_rfl
theorem vf:(Tryz.prog.funcNamed "gosem.cut.vars").isSome=true:=by kernel_rfl
theorem vg:varsNamedLaterB Tryz.prog (varsId Tryz.prog) tieL=true:=by kernel_rfl
theorem vh:∀os tape,varsDone Tryz.prog 400 (varsId Tryz.prog) os tape=true:=fun _ _=>by kernel_rfl
theorem vi:∀os tape,(DataW.laidRun Tryz.prog (varsWorld Tryz.prog 400 (varsId Tryz.prog) os tape).memory 8 (tieL.map (·.1))).map (·.1)=some tieL:=fun _ _=>by kernel_rfl
theorem vj:∀os tape,(DataW.laidRun Tryz.prog (varsWorld Tryz.prog 400 (varsId Tryz.prog) os tape).memory 8 (tieL.map (·.1))).map (fun x=>decide x.2.Nodup&&laidRowsB Tryz.prog (varsWorld Tryz.prog 400 (varsId Tryz.prog) os tape).memory x.2)=some true:=fun _ _=>by kernel_rfl
theorem tie:Tryz.prog.laidByTextLater [("unicode/utf8.acceptRanges",Rows.laid_unicode_utf8_acceptRanges),("strconv.ErrSyntax",Rows.laid_strconv_ErrSyntax),("strconv.ErrRange",Rows.laid_strconv_ErrRange),("internal/strconv.uint64pow10",Rows.laid_internal_strconv_uint64pow10),("math/bits.deBruijn32tab",Rows.laid_math_bits_deBruijn32tab),("math/bits.deBruijn64tab",Rows.laid_math_bits_deBruijn64tab)] [.data,.sentinel,.sentinel,.data,.data,.data] true:=Program.laidByTextLater_by_run (laid:=tieL) 400 8 vb vc vd ve vf vg vh vi vj
theorem useKnown_row_tie:Rows.useKnownRow.laidByTextAt .later Tryz.pinned [.pinned,.data,.sentinel,.sentinel,.data,.data,.data] true:=
 OpenClaim.laidByTextAt_pinned rfl rfl tie rfl rfl rfl rfl (fun y hy _e=>by
  simp only[Rows.useKnownRow,List.zip_cons_cons,List.zip_nil_right,List.mem_cons,List.mem_nil_iff,or_false] at hy
  rcases hy with rfl|rfl|rfl|rfl|rfl|rfl|rfl
  ·exact ⟨pin_laid_unicode_utf8_first,by kernel_rfl⟩
  ·cases _e
  ·cases _e
  ·cases _e
  ·cases _e
  ·cases _e
  ·cases _e) fits1
end Go.Proofs.YtjmnheinkchlfaaGreatDoor
