/- What small functions answer, whatever the numbers and texts. -/
import Derived.Test.YtjhggnebkfpgcaaGreatDoorProg
import Derived.Test.YtjhggnebkfpgcaaGreatDoorG4
import Derived.KernelRfl
namespace Go.Proofs.YtjhggnebkfpgcaaGreatDoor
open Go.Proofs.Abs

def freshs : List Nat := [119, 120, 121, 151, 191, 193, 194]
def keeps : List Nat := [102, 104, 144, 145, 214, 215]
noncomputable def opts (G : Glob) : Opts := { how := fun f => match memN freshs f with | true => .fresh | false => match memN keeps f with | true => .keep | false => .pure, summ := fun _ _ => none, glob := G, lf := 100000 }
abbrev I (n : Int) : AV := .int .i64 n
/-- What a function answers, called in any way. -/
def Says (G : Glob) (n : Nat) (f : FuncId) (args : List AV) (v : AV) : Prop := ∀ id h nx, callN Tryz.prog (opts G) n f args id h nx = some (v, h, nx, ⟨false, [], []⟩)

theorem closed_bytes : ∀ s : List UInt8, closedAll (toBytes s) = true
  | [] => rfl
  | _ :: t => by simp only [toBytes, closedAll, closedA, closed_bytes t, Bool.and_self]
theorem freeze_int {n : Nat} {h : Heap} {d : Nat} {k : IntKind} {x : Int} : freezeA n h (d + 1) (.int k x) = some (.int k x) := rfl
theorem freeze_str {n : Nat} {h : Heap} {d : Nat} {s : List UInt8} : freezeA n h (d + 1) (.str s) = some (.str s) := rfl
theorem freeze_bool {n : Nat} {h : Heap} {d : Nat} {b : Bool} : freezeA n h (d + 1) (.bool b) = some (.bool b) := rfl
theorem freeze_nilsl {n : Nat} {h : Heap} {d : Nat} : freezeA n h (d + 1) .nilsl = some .nilsl := rfl
theorem freeze_agg {n : Nat} {h : Heap} {d : Nat} {l l' : List AV} (e : mapL (freezeA n h d) l = some l') : freezeA n h (d + 1) (.agg l) = some (.agg l') := by simp only [freezeA, e]
theorem freeze_tuple {n : Nat} {h : Heap} {d : Nat} {l l' : List AV} (e : mapL (freezeA n h d) l = some l') : freezeA n h (d + 1) (.tuple l) = some (.tuple l') := by simp only [freezeA, e]
theorem freeze_fsl {n : Nat} {h : Heap} {d : Nat} {b : Bool} {l l' : List AV} (e : mapL (freezeA n h d) l = some l') : freezeA n h (d + 1) (.fsl b l) = some (.fsl b l') := by simp only [freezeA, e]
theorem freeze_rsl {n : Nat} {h : Heap} {d : Nat} {b : Bool} {id off len sz : Nat} {c es l' : List AV} (hn : Nat.blt id n = false) (hg : hget h id = some (.cells c)) (hc : cutElems sz len (c.drop off) = some es) (e : mapL (freezeA n h d) es = some l') :
    freezeA n h (d + 1) (.rsl b id off len sz) = some (.fsl false l') := by simp only [freezeA, hn, hg, hc, e]
theorem mapL_cons {f : AV → Option AV} {a b : AV} {t u : List AV} (h1 : f a = some b) (h2 : mapL f t = some u) : mapL f (a :: t) = some (b :: u) := by simp only [mapL, h1, h2]
theorem mapL_nil {f : AV → Option AV} : mapL f [] = some [] := rfl
theorem freeze_bytes {n : Nat} {h : Heap} {d : Nat} : ∀ s : List UInt8, mapL (freezeA n h (d + 1)) (toBytes s) = some (toBytes s)
  | [] => rfl
  | _ :: t => mapL_cons freeze_int (freeze_bytes t)
theorem lenN_bytes : ∀ s : List UInt8, lenN (toBytes s) = s.length
  | [] => rfl
  | _ :: t => by simp only [toBytes, lenN, lenN_bytes t, List.length_cons]
theorem size_bytes : ∀ s : List UInt8, allSize 1 (toBytes s) = true
  | [] => rfl
  | _ :: t => by simp only [toBytes, allSize, AV.cells, lenN, size_bytes t, Bool.and_true]; rfl
theorem cut_bytes : ∀ s : List UInt8, cutElems 1 s.length (toBytes s) = some (toBytes s)
  | [] => rfl
  | _ :: t => by
    simp only [toBytes, List.length_cons, cutElems, chunk, Option.map_some, List.drop_succ_cons, List.drop_zero, cut_bytes t, mkElem]
theorem flat_bytes : ∀ s : List UInt8, flat (toBytes s) = toBytes s
  | [] => rfl
  | _ :: t => by simp only [toBytes, flat, AV.cells, flat_bytes t]; rfl

variable {G : Glob} {n : Nat}

/-! ### slices.Clone of bytes -/

theorem clone_nil : Says G (n + 1) 118 [.nilsl] .nilsl := pureT_ok (O := opts G) (T := []) (F := []) rfl rfl (by kernel_rfl) trivial
theorem clone_none {b : Bool} : Says G (n + 1) 118 [.fsl b []] (.fsl true []) := pureT_ok (O := opts G) (T := []) (F := []) rfl rfl (by kernel_rfl) trivial

theorem append_bytes {b : Bool} {s : List UInt8} (hs : s ≠ []) (hl : s.length ≤ 140737488355328) :
    appendA Tryz.prog #[23, 23] (.fsl true []) (.fsl b (toBytes s)) = some (.new (.cells (toBytes s)) fun id => .rsl true id 0 s.length 1) := by
  have h1 : Tryz.prog.underlying 23 = some (.slice 5) := by kernel_rfl
  have h2' : (Tryz.prog.info? 5).map (fun i => (i.size, i.bytes)) = some (1, 1) := by kernel_rfl
  obtain ⟨i, h2, h3⟩ := Option.map_eq_some_iff.1 h2'
  simp only [Prod.mk.injEq] at h3
  obtain ⟨h3, h4⟩ := h3
  have h5 : zeroA Tryz.prog 5 = some (.int .u8 0) := by kernel_rfl
  have hne : Nat.beq s.length 0 = false := by cases s with
    | nil => exact absurd rfl hs
    | cons _ _ => rfl
  simp [appendA, h1, h2, h3, h4, h5, appSrc, srcA, size_bytes, lenN_bytes, flat_bytes, hne, AV.cells, lenN, flat, allSize, hl]

theorem clone_bytes {b : Bool} {s : List UInt8} (hs : s ≠ []) (hl : s.length ≤ 140737488355328) : Says G (n + 1) 118 [.fsl b (toBytes s)] (.fsl false (toBytes s)) := by
  refine rawT_call (O := opts G) (T := [(3, 2, .e (.new (.cells (toBytes s)) fun id => .rsl true id 0 s.length 1))]) (v := .rsl true 5 0 s.length 1) (h' := [(5, some (.cells (toBytes s)))])
    (F := [.eff (.call { callee := .builtin .append, args := #[.tmp 5, .tmp 6], argTypes := #[23, 23] }) [some (.fsl true []), some (.fsl b (toBytes s))] (.new (.cells (toBytes s)) fun id => .rsl true id 0 s.length 1)]) rfl rfl ?_ (by kernel_rfl) ⟨?_, trivial⟩ ?_ ?_
  · simp [closedAll, closedA, closed_bytes]
  · intro ev h o ho
    simp [Op.operands, Call.operands] at h
    simp [effA, ho, eCall, mapOp, h.1, h.2, builtinA, append_bytes hs hl]
  · exact freeze_rsl rfl rfl (by rw [List.drop_zero]; exact cut_bytes s) (freeze_bytes s)
  · simp [closedA, closed_bytes]

end Go.Proofs.YtjhggnebkfpgcaaGreatDoor
