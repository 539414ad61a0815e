/- The law AttrsReadBack in the abstract machine: true, whatever the numbers. -/
import Derived.Test.YtjhggnebkfpgcaaGreatDoorBack5
namespace Go.Proofs.YtjhggnebkfpgcaaGreatDoor
open Go.Proofs.Abs
variable {G : Glob} {n : Nat}

theorem freeze_attr_raw {m : Nat} {h : Heap} {d : Nat} {s : List UInt8} {i : Int} (v : Vl) : freezeA m h (d + 6) (attr s i (v.av true raw)) = some (attr s i (v.av true raw)) := by
  refine freeze_agg (mapL_cons freeze_str (mapL_cons freeze_int ?_))
  cases v with
  | num k x => exact freeze_five rfl rfl
  | text s => exact freeze_five (freeze_raw s) rfl
  | reason x => exact freeze_five rfl rfl
  | link x s => exact freeze_five rfl (freeze_fsl (mapL_cons (freeze_item rfl rfl) (mapL_cons (freeze_item (freeze_raw s) rfl) mapL_nil)))
  | limits x y z => exact freeze_five rfl rfl
theorem closed_attr_of {s : List UInt8} {i : Int} {b : Bool} {d : List UInt8 → AV} (hd : ∀ s, closedA (d s) = true) (v : Vl) : closedA (attr s i (v.av b d)) = true := by
  have := closed_val (b := b) hd v
  obtain ⟨t, k, x, a, l, e⟩ := v.agg b d
  rw [e] at this ⊢
  exact closed_attr this

theorem attr_says (k a b c : Int) : ∃ (s : List UInt8) (i : Int) (v : Vl), s ∈ nameL ∧ 0 ≤ i ∧ v.may ∧ Says gl (n + 5) 16 [rawAV k a b c] (attr s i (v.av true raw)) := by
  obtain ⟨s, hs, h1⟩ := name_says (n := n + 2) k
  obtain ⟨v, hv, h2⟩ := value_says (n := n) hs k a b c
  by_cases hb : b.tmod 3 = 0
  · have h3 : beqInt (b.tmod 3) 0 = true := by rw [beqInt_eq]; simpa using hb
    obtain ⟨p, p0, _, h4⟩ := pick_says (G := gl) (n := n + 3) (wrapA .i64 (b.tdiv 3)) 4 (by decide) (by decide)
    refine ⟨s, p, v, hs, p0, hv, ?_⟩
    exact valT_ok (O := opts gl) (T := [(1, 2, .c (.str s)), (3, 3, .b true), (4, 3, .c (I p)), (5, 4, .c (v.av true raw))]) (v := attr s p (v.av true raw))
      (F := [.call 60 [.str s, rawAV k a b c] (v.av true raw), .call 23 [I (wrapA .i64 (b.tdiv 3)), I 4] (I p), .beq (b.tmod 3) 0 true, .call 43 [I k] (.str s)]) rfl rfl rfl (by cases v <;> kernel_rfl) ⟨h2, h4, h3, h1, trivial⟩ (fun _ => freeze_attr_raw v) (closed_attr_of closed_raw v)
  · have h3 : beqInt (b.tmod 3) 0 = false := by rw [beqInt_eq]; simpa using hb
    refine ⟨s, 0, v, hs, by decide, hv, ?_⟩
    exact valT_ok (O := opts gl) (T := [(1, 2, .c (.str s)), (3, 3, .b false), (5, 4, .c (v.av true raw))]) (v := attr s 0 (v.av true raw))
      (F := [.call 60 [.str s, rawAV k a b c] (v.av true raw), .beq (b.tmod 3) 0 false, .call 43 [I k] (.str s)]) rfl rfl rfl (by cases v <;> kernel_rfl) ⟨h2, h3, h1, trivial⟩ (fun _ => freeze_attr_raw v) (closed_attr_of closed_raw v)

theorem known_says : Says gl (n + 20) 21 [] (.bool true) := pureT_ok (O := opts gl) (T := []) (F := []) rfl rfl (by kernel_rfl) trivial

theorem beqBytes_self (s : List UInt8) : beqBytes s s = true := by rw [beqBytes_eq]; simp

theorem law_runs (k a b c : Int) : ∃ h nx, runBody Tryz.prog (opts gl) (callN Tryz.prog (opts gl) 20) 8 [rawAV k a b c] [] 0 = some (.bool true, h, nx) := by
  obtain ⟨s, i, v, hs, hi, hv, h1⟩ := attr_says (n := 15) k a b c
  have h2 := lay_says (G := gl) (n := 13) s i v hv
  have h3 := read_says (G := gl) (n := 13) s i hi v hv
  have h4 := known_says (n := 0)
  have h5 := same_copy (G := gl) (n := 15) v hv
  have key : valT Tryz.prog (opts gl) 20 8 [rawAV k a b c] [(1, 1, .c (attr s i (v.av true raw))), (2, 1, .c (laid (kids s i (v.av false cop)))), (2, 2, .c (.tuple [attr s i (v.av false cop), .bool true])), (3, 0, .c (.bool true)), (3, 9, .b true), (3, 16, .b true), (3, 23, .c (.bool true))] =
      some (.bool true, [.call 33 [v.av true raw, v.av false cop] (.bool true), .beq i i true, .seq s s true, .call 21 [] (.bool true), .call 37 [laid (kids s i (v.av false cop))] (.tuple [attr s i (v.av false cop), .bool true]), .call 36 [attr s i (v.av true raw)] (laid (kids s i (v.av false cop))), .call 16 [rawAV k a b c] (attr s i (v.av true raw))]) := by
    cases v with
    | text s => cases s <;> kernel_rfl
    | _ => kernel_rfl
  unfold valT at key
  split at key
  · rename_i v0 h0 F0 hr
    simp only [Option.some.injEq, Prod.mk.injEq] at key
    obtain ⟨rfl, rfl⟩ := key
    obtain ⟨nx, hb⟩ := rawT_ok hr ⟨h5, beqInt_self i, beqBytes_self s, h4, h3, h2, h1, trivial⟩
    exact ⟨_, nx, hb⟩
  · cases key

end Go.Proofs.YtjhggnebkfpgcaaGreatDoor
