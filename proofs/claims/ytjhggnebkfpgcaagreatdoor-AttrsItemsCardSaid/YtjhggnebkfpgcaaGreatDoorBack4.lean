/- attrs.Read of what attrs.Lay laid. -/
import Derived.Test.YtjhggnebkfpgcaaGreatDoorBack3
namespace Go.Proofs.YtjhggnebkfpgcaaGreatDoor
open Go.Proofs.Abs
variable {G : Glob} {n : Nat}

theorem closed_kids {s : List UInt8} {i : Int} {v : AV} (hv : closedA v = true) : closedAll (kids s i v) = true := by
  unfold kids
  split
  · exact closed_cons (closed_item (closed_raw s) rfl) (closed_cons hv rfl)
  · exact closed_cons (closed_item (closed_raw s) rfl) (closed_cons rfl (closed_cons hv rfl))

theorem shape_laid {l : List AV} (hl : closedAll l = true) : Says G (n + 2) 89 [laid l, I 4325384, I 1] (.bool true) :=
  valT_ok (O := opts G) (T := []) (v := .bool true) (F := []) rfl rfl (closed_cons (closed_item rfl (closed_fsl hl)) rfl) (by kernel_rfl) trivial (fun _ => rfl) rfl
theorem shape_name (s : List UInt8) : Says G (n + 2) 89 [nameItem s, I 4325386, I 7] (.bool true) :=
  valT_ok (O := opts G) (T := []) (v := .bool true) (F := []) rfl rfl (closed_cons (closed_item (closed_raw s) rfl) rfl) (by kernel_rfl) trivial (fun _ => rfl) rfl

theorem bytesOf_toBytes : ∀ s : List UInt8, bytesOf (toBytes s) = some s
  | [] => rfl
  | b :: t => by
    have : UInt8.ofNat b.toNat = b := by simp
    simp [toBytes, bytesOf, bytesOf_toBytes t, this]

theorem conv_raw (s : List UInt8) : convA Tryz.prog 23 9 (raw s) = some (.val (.str s)) := by
  have h1 : Tryz.prog.underlying 23 = some (.slice 5) := by kernel_rfl
  have h2 : Tryz.prog.underlying 9 = some .string := by kernel_rfl
  have h3 : Tryz.prog.underlying 5 = some (.int .u8) := by kernel_rfl
  simp [convA, h1, h2, isByteType, h3, raw, convToStr, strO, bytesOf_toBytes]

theorem freeze_five {m : Nat} {h : Heap} {d : Nat} {t k x : Int} {a l : AV} (ha : freezeA m h (d + 1) a = some a) (hl : freezeA m h (d + 1) l = some l) : mapL (freezeA m h (d + 1)) (item t k x a l).cells = some (item t k x a l).cells :=
  mapL_cons freeze_int (mapL_cons freeze_int (mapL_cons freeze_int (mapL_cons ha (mapL_cons hl mapL_nil))))
theorem freeze_attr {m : Nat} {h : Heap} {d : Nat} {s : List UInt8} {i : Int} (v : Vl) : freezeA m h (d + 6) (attr s i (v.av false cop)) = some (attr s i (v.av false cop)) := by
  refine freeze_agg (mapL_cons freeze_str (mapL_cons freeze_int ?_))
  cases v with
  | num k x => exact freeze_five rfl rfl
  | text s => exact freeze_five (freeze_cop s) rfl
  | reason x => exact freeze_five rfl rfl
  | link x s => exact freeze_five rfl (freeze_fsl (mapL_cons (freeze_item rfl rfl) (mapL_cons (freeze_item (freeze_cop s) rfl) mapL_nil)))
  | limits x y z => exact freeze_five rfl rfl

theorem read_says (s : List UInt8) (i : Int) (hi : 0 ≤ i) (v : Vl) (hv : v.may) : Says G (n + 7) 37 [laid (kids s i (v.av false cop))] (.tuple [attr s i (v.av false cop), .bool true]) := by
  have hval := closed_val (b := false) closed_cop v
  have hk := closed_kids (s := s) (i := i) hval
  have hsh := shape_laid (G := G) (n := n + 4) hk
  have hn := shape_name (G := G) (n := n + 4) s
  have hcop := copied_cop (G := G) (n := n) v hv
  obtain ⟨t', k', x', a', l', e'⟩ := v.agg false cop
  have hgen : Fact.ok Tryz.prog (opts G) (.gen (.convert 23 9 (.tmp 66)) [some (raw s)] (.str s)) (n + 6) := by
    intro ev h o ho
    simp [Op.operands] at h
    simp [effA, ho, e1, h, conv_raw]
  have hfz : ∀ h', freezeA 0 h' 40 (.tuple [attr s i (v.av false cop), .bool true]) = some (.tuple [attr s i (v.av false cop), .bool true]) := fun h' =>
    freeze_tuple (mapL_cons (freeze_attr v) (mapL_cons rfl mapL_nil))
  have hcl : closedA (.tuple [attr s i (v.av false cop), .bool true]) = true := by
    rw [e'] at hval ⊢
    exact closed_cons (closed_attr hval) rfl
  by_cases h0 : i = 0
  · subst h0
    exact valT_ok (O := opts G) (T := [(2, 1, .c (.bool true)), (5, 1, .c (.bool true)), (12, 2, .v (.str s)), (12, 4, .c (v.av false cop))]) (v := .tuple [attr s 0 (v.av false cop), .bool true])
      (F := [.call 88 [v.av false cop] (v.av false cop), .gen (.convert 23 9 (.tmp 66)) [some (raw s)] (.str s), .call 89 [nameItem s, I 4325386, I 7] (.bool true), .call 89 [laid (kids s 0 (v.av false cop)), I 4325384, I 1] (.bool true)]) rfl rfl (closed_cons (closed_item rfl (closed_fsl hk)) rfl) (by
        cases v with
        | text s => cases s <;> kernel_rfl
        | _ => kernel_rfl) ⟨hcop, hgen, hn, hsh, trivial⟩ hfz hcl
  · have hkk : kids s i (v.av false cop) = [nameItem s, ixItem i, v.av false cop] := by simp only [kids, h0, decide_false]
    rw [hkk] at hk hsh ⊢
    have hlt : ltInt 0 i = true := by rw [ltInt_eq]; simpa using by omega
    exact valT_ok (O := opts G) (T := [(2, 1, .c (.bool true)), (5, 1, .c (.bool true)), (9, 6, .b false), (12, 2, .v (.str s)), (12, 4, .c (v.av false cop))]) (v := .tuple [attr s i (v.av false cop), .bool true])
      (F := [.call 88 [v.av false cop] (v.av false cop), .gen (.convert 23 9 (.tmp 66)) [some (raw s)] (.str s), .lt 0 i true, .call 89 [nameItem s, I 4325386, I 7] (.bool true), .call 89 [laid [nameItem s, ixItem i, v.av false cop], I 4325384, I 1] (.bool true)]) rfl rfl (closed_cons (closed_item rfl (closed_fsl hk)) rfl) (by
        cases v with
        | text s => cases s <;> kernel_rfl
        | _ => kernel_rfl) ⟨hcop, hgen, hlt, hn, hsh, trivial⟩ hfz hcl

end Go.Proofs.YtjhggnebkfpgcaaGreatDoor
