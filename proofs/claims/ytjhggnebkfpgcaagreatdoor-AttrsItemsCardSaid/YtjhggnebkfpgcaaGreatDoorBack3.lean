/- attrs.Lay. -/
import Derived.Test.YtjhggnebkfpgcaaGreatDoorBack2
namespace Go.Proofs.YtjhggnebkfpgcaaGreatDoor
open Go.Proofs.Abs
variable {G : Glob} {n : Nat}

def attr (s : List UInt8) (i : Int) (v : AV) : AV := .agg (.str s :: I i :: v.cells)
def nameItem (s : List UInt8) : AV := item 4325386 7 0 (raw s) .nilsl
def ixItem (i : Int) : AV := item 4325385 2 i .nilsl .nilsl
def laid (l : List AV) : AV := item 4325384 1 0 .nilsl (.fsl false l)
def kids (s : List UInt8) (i : Int) (v : AV) : List AV := match decide (i = 0) with
  | true => [nameItem s, v]
  | false => [nameItem s, ixItem i, v]

theorem closed_raw (s : List UInt8) : closedA (raw s) = true := closed_bytes s
theorem closed_cop (s : List UInt8) : closedA (cop s) = true := by
  cases s with
  | nil => rfl
  | cons b t => exact closed_bytes (b :: t)
theorem closed_item {t k x : Int} {d l : AV} (hd : closedA d = true) (hl : closedA l = true) : closedA (item t k x d l) = true := by
  simp only [item, closedA, closedAll, hd, hl, Bool.and_self]
theorem closed_fsl {b : Bool} {l : List AV} (h : closedAll l = true) : closedA (.fsl b l) = true := h
theorem closed_cons {a : AV} {l : List AV} (h : closedA a = true) (h' : closedAll l = true) : closedAll (a :: l) = true := by simp only [closedAll, h, h', Bool.and_self]
theorem closed_val {b : Bool} {d : List UInt8 → AV} (hd : ∀ s, closedA (d s) = true) (v : Vl) : closedA (v.av b d) = true := by
  cases v with
  | num k x => rfl
  | text s => exact closed_item (hd s) rfl
  | reason x => rfl
  | link x s => exact closed_item rfl (closed_fsl (closed_cons rfl (closed_cons (closed_item (hd s) rfl) rfl)))
  | limits x y z => rfl
theorem closed_attr {s : List UInt8} {i : Int} {t k x : Int} {d l : AV} (h : closedA (item t k x d l) = true) : closedA (attr s i (item t k x d l)) = true := by
  simp only [item, closedA, closedAll, Bool.and_true] at h
  simp only [attr, item, AV.cells, closedA, closedAll, Bool.and_true, Bool.true_and] at h ⊢
  exact h

theorem freeze_raw {m : Nat} {h : Heap} {d : Nat} (s : List UInt8) : freezeA m h (d + 2) (raw s) = some (raw s) := freeze_fsl (freeze_bytes s)
theorem freeze_cop {m : Nat} {h : Heap} {d : Nat} (s : List UInt8) : freezeA m h (d + 2) (cop s) = some (cop s) := by
  cases s with
  | nil => rfl
  | cons b t => exact freeze_raw (b :: t)
theorem freeze_item {m : Nat} {h : Heap} {d : Nat} {t k x : Int} {a l a' l' : AV} (ha : freezeA m h (d + 1) a = some a') (hl : freezeA m h (d + 1) l = some l') : freezeA m h (d + 2) (item t k x a l) = some (item t k x a' l') :=
  freeze_agg (mapL_cons freeze_int (mapL_cons freeze_int (mapL_cons freeze_int (mapL_cons ha (mapL_cons hl mapL_nil)))))
theorem freeze_val {m : Nat} {h : Heap} {d : Nat} (v : Vl) : freezeA m h (d + 6) (v.av false cop) = some (v.av false cop) := by
  cases v with
  | num k x => exact freeze_item rfl rfl
  | text s => exact freeze_item (freeze_cop s) rfl
  | reason x => exact freeze_item rfl rfl
  | link x s => exact freeze_item rfl (freeze_fsl (mapL_cons (freeze_item rfl rfl) (mapL_cons (freeze_item (freeze_cop s) rfl) mapL_nil)))
  | limits x y z => exact freeze_item rfl rfl

theorem cut_five {a b c d e : AV} {t l : List AV} {k : Nat} (h : cutElems 5 k t = some l) : cutElems 5 (k + 1) (a :: b :: c :: d :: e :: t) = some (.agg [a, b, c, d, e] :: l) := by
  simp only [cutElems, chunk, Option.map_some, List.drop_succ_cons, List.drop_zero, h, mkElem]

theorem Vl.agg (b : Bool) (d : List UInt8 → AV) (v : Vl) : ∃ t k x a l, v.av b d = item t k x a l := by
  cases v <;> exact ⟨_, _, _, _, _, rfl⟩

theorem lay_says (s : List UInt8) (i : Int) (v : Vl) (hv : v.may) : Says G (n + 7) 36 [attr s i (v.av true raw)] (laid (kids s i (v.av false cop))) := by
  have hc : closedAll [attr s i (v.av true raw)] = true := by
    have := closed_val (b := true) closed_raw v
    obtain ⟨t, k, x, a, l, e⟩ := v.agg true raw
    rw [e] at this ⊢
    exact closed_cons (closed_attr this) rfl
  have hcop := copied_raw (G := G) (n := n) v hv
  obtain ⟨t', k', x', a', l', e'⟩ := v.agg false cop
  have hcl : closedA (laid (kids s i (v.av false cop))) = true := by
    have hval := closed_val (b := false) closed_cop v
    unfold kids
    split
    · exact closed_item rfl (closed_fsl (closed_cons (closed_item (closed_raw s) rfl) (closed_cons hval rfl)))
    · exact closed_item rfl (closed_fsl (closed_cons (closed_item (closed_raw s) rfl) (closed_cons rfl (closed_cons hval rfl))))
  by_cases hi : i = 0
  · subst hi
    refine rawT_call (O := opts G) (T := [(4, 4, .c (v.av false cop))]) (v := item 4325384 1 0 .nilsl (.rsl true 19 0 2 5))
      (h' := [(19, some (.cells ((nameItem s).cells ++ (v.av false cop).cells))), (8, some (.cells [I 4325384, I 1, I 0, .nilsl, .rsl true 19 0 2 5])), (1, some (.cells [I 4325384, I 1, I 0, .nilsl, .rsl true 19 0 2 5])), (0, some (.cells (.str s :: I 0 :: (v.av true raw).cells)))])
      (F := [.call 88 [v.av true raw] (v.av false cop)]) rfl rfl hc (by
        cases v with
        | text s => cases s <;> kernel_rfl
        | _ => kernel_rfl) ⟨hcop, trivial⟩ ?_ hcl
    refine freeze_item rfl (freeze_rsl rfl rfl (es := [nameItem s, v.av false cop]) ?_ (mapL_cons (freeze_item (freeze_raw s) rfl) (mapL_cons (freeze_val v) mapL_nil)))
    rw [e']; exact cut_five (cut_five rfl)
  · have hk : kids s i (v.av false cop) = [nameItem s, ixItem i, v.av false cop] := by simp only [kids, hi, decide_false]
    rw [hk] at hcl ⊢
    have hb : beqInt i 0 = false := by rw [beqInt_eq]; simpa using hi
    refine rawT_call (O := opts G) (T := [(2, 2, .b true), (4, 4, .c (v.av false cop))]) (v := item 4325384 1 0 .nilsl (.rsl true 28 0 3 5))
      (h' := [(28, some (.cells ((nameItem s).cells ++ (ixItem i).cells ++ (v.av false cop).cells))), (19, none), (8, some (.cells [I 4325384, I 1, I 0, .nilsl, .rsl true 28 0 3 5])), (1, some (.cells [I 4325384, I 1, I 0, .nilsl, .rsl true 28 0 3 5])), (0, some (.cells (.str s :: I i :: (v.av true raw).cells)))])
      (F := [.call 88 [v.av true raw] (v.av false cop), .beq i 0 false]) rfl rfl hc (by
        cases v with
        | text s => cases s <;> kernel_rfl
        | _ => kernel_rfl) ⟨hcop, hb, trivial⟩ ?_ hcl
    refine freeze_item rfl (freeze_rsl rfl rfl (es := [nameItem s, ixItem i, v.av false cop]) ?_ (mapL_cons (freeze_item (freeze_raw s) rfl) (mapL_cons rfl (mapL_cons (freeze_val v) mapL_nil))))
    rw [e']; exact cut_five (cut_five (cut_five rfl))

end Go.Proofs.YtjhggnebkfpgcaaGreatDoor
