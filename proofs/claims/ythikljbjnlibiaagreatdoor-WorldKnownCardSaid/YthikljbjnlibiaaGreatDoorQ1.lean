import Derived.Test.YthikljbjnlibiaaGreatDoorRows
import Derived.LaidByTextLater
import Derived.SevenTiedAt
import Derived.KernelRfl
namespace Go.Proofs.YthikljbjnlibiaaGreatDoor
open Go
theorem pin_laid_unicode_utf8_first:Tryz.pinned.checked.prog.pinnedFits "unicode/utf8.first" =true:=by kernel_rfl
theorem noOwnUnsafe:Tryz.pinned.checked.prog.headLifts.contains "ownunsafe" =false:=by kernel_rfl
theorem fits2:Tryz.pinned.checked.prog.listedFits [("unicode/utf8.first",Rows.laid_unicode_utf8_first),("unicode/utf8.acceptRanges",Rows.laid_unicode_utf8_acceptRanges),("strconv.ErrSyntax",Rows.laid_strconv_ErrSyntax),("strconv.ErrRange",Rows.laid_strconv_ErrRange),("internal/strconv.uint64pow10",Rows.laid_internal_strconv_uint64pow10),("math/bits.deBruijn32tab",Rows.laid_math_bits_deBruijn32tab),("math/bits.deBruijn64tab",Rows.laid_math_bits_deBruijn64tab),("locksmith/locksmithhand.kinds",Rows.laid_locksmith_locksmithhand_kinds),("locksmith/locksmithhand.names",Rows.laid_locksmith_locksmithhand_names)]=true:=by
 unfold Program.listedFits
 rw[noOwnUnsafe]
 kernel_rfl
def tie2L:List (String × DataW Unit):=[("unicode/utf8.acceptRanges",Rows.laid_unicode_utf8_acceptRanges),("strconv.ErrSyntax",Rows.laid_strconv_ErrSyntax),("strconv.ErrRange",Rows.laid_strconv_ErrRange),("internal/strconv.uint64pow10",Rows.laid_internal_strconv_uint64pow10),("math/bits.deBruijn32tab",Rows.laid_math_bits_deBruijn32tab),("math/bits.deBruijn64tab",Rows.laid_math_bits_deBruijn64tab),("locksmith/locksmithhand.kinds",Rows.laid_locksmith_locksmithhand_kinds),("locksmith/locksmithhand.names",Rows.laid_locksmith_locksmithhand_names)]
theorem tx:Tryz.prog.worded (varsWordLater true)=true:=by kernel_rfl
theorem tz:Tryz.prog.worded (varsWordLater !true)=false:=by kernel_rfl
theorem tA:Tryz.prog.worded rootWordLater=true:=by kernel_rfl
theorem tB:tie2L.map (fun x=>Tryz.prog.kindOfLater x.1)=([.data,.sentinel,.sentinel,.data,.data,.data,.data,.data]:List LaidKind).map some:=by kernel_rfl
theorem tC:(Tryz.prog.funcNamed "gosem.cut.vars").isSome=true:=by kernel_rfl
theorem tD:varsNamedLaterB Tryz.prog (varsId Tryz.prog) tie2L=true:=by kernel_rfl
theorem tE:∀os tape,varsDone Tryz.prog 400 (varsId Tryz.prog) os tape=true:=fun _ _=>by kernel_rfl
theorem tF:∀os tape,(DataW.laidRun Tryz.prog (varsWorld Tryz.prog 400 (varsId Tryz.prog) os tape).memory 8 (tie2L.map (·.1))).map (·.1)=some tie2L:=fun _ _=>by kernel_rfl
theorem tG:∀os tape,(DataW.laidRun Tryz.prog (varsWorld Tryz.prog 400 (varsId Tryz.prog) os tape).memory 8 (tie2L.map (·.1))).map (fun x=>decide x.2.Nodup&&laidRowsB Tryz.prog (varsWorld Tryz.prog 400 (varsId Tryz.prog) os tape).memory x.2)=some true:=fun _ _=>by kernel_rfl
theorem tie2:Tryz.prog.laidByTextLater [("unicode/utf8.acceptRanges",Rows.laid_unicode_utf8_acceptRanges),("strconv.ErrSyntax",Rows.laid_strconv_ErrSyntax),("strconv.ErrRange",Rows.laid_strconv_ErrRange),("internal/strconv.uint64pow10",Rows.laid_internal_strconv_uint64pow10),("math/bits.deBruijn32tab",Rows.laid_math_bits_deBruijn32tab),("math/bits.deBruijn64tab",Rows.laid_math_bits_deBruijn64tab),("locksmith/locksmithhand.kinds",Rows.laid_locksmith_locksmithhand_kinds),("locksmith/locksmithhand.names",Rows.laid_locksmith_locksmithhand_names)] [.data,.sentinel,.sentinel,.data,.data,.data,.data,.data] true:=Program.laidByTextLater_by_run (laid:=tie2L) 400 8 tx tz tA tB tC tD tE tF tG
theorem worldKnown_row_tie:Rows.worldKnownRow.laidByTextAt .later Tryz.pinned [.pinned,.data,.sentinel,.sentinel,.data,.data,.data,.data,.data] true:=
 OpenClaim.laidByTextAt_pinned rfl rfl tie2 rfl rfl rfl rfl (fun y hy _e=>by
  simp only[Rows.worldKnownRow,List.zip_cons_cons,List.zip_nil_right,List.mem_cons,List.mem_nil_iff,or_false] at hy
  rcases hy with rfl|rfl|rfl|rfl|rfl|rfl|rfl|rfl|rfl
  ·exact ⟨pin_laid_unicode_utf8_first,by kernel_rfl⟩
  ·cases _e
  ·cases _e
  ·cases _e
  ·cases _e
  ·cases _e
  ·cases _e
  ·cases _e
  ·cases _e) fits2
end Go.Proofs.YthikljbjnlibiaaGreatDoor
