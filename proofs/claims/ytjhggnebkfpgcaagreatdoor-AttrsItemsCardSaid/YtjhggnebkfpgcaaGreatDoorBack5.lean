/- Attributes made of raw numbers. -/
import Derived.Test.YtjhggnebkfpgcaaGreatDoorBack4
namespace Go.Proofs.YtjhggnebkfpgcaaGreatDoor
open Go.Proofs.Abs
variable {G : Glob} {n : Nat}

theorem wrap_in {x : Int} (h1 : -9223372036854775808 ≤ x) (h2 : x ≤ 9223372036854775807) : wrapA .i64 x = x := by
  rw [wrapA_eq]; exact IntWalk.i64_in _ ⟨by omega, by omega⟩

theorem pick_says (x m : Int) (h0 : 0 < m) (h1 : m ≤ 4611686018427387904) : ∃ p, 0 ≤ p ∧ p < m ∧ Says G (n + 1) 23 [I x, I m] (I p) := by
  have hrem : Fact.ok Tryz.prog (opts G) (.gen (.binOp .rem 3 (.tmp 5) (.tmp 6) 3) [some (I x), some (I m)] (I (x.tmod m))) n := by
    intro ev h o ho
    simp [Op.operands] at h
    have : beqInt m 0 = false := by rw [beqInt_eq]; simp; omega
    simp [effA, ho, e2, h, binA, this, valO]
  have hlt : x.tmod m < m := Int.tmod_lt_of_pos x h0
  have hgt : -m < x.tmod m := by
    have := Int.lt_tmod_of_pos x h0
    omega
  by_cases hneg : x.tmod m < 0
  · have hl : ltInt (x.tmod m) 0 = true := by rw [ltInt_eq]; simpa using hneg
    refine ⟨x.tmod m + m, by omega, by omega, ?_⟩
    have := pureT_ok (O := opts G) (n := n) (f := 23) (args := [I x, I m]) (T := [(1, 2, .v (I (x.tmod m))), (2, 1, .b true)]) (v := I (wrapA .i64 (x.tmod m + m))) (F := [.lt (x.tmod m) 0 true, .gen (.binOp .rem 3 (.tmp 5) (.tmp 6) 3) [some (I x), some (I m)] (I (x.tmod m))]) rfl rfl (by kernel_rfl) ⟨hl, hrem, trivial⟩
    rw [wrap_in (by omega) (by omega)] at this
    exact this
  · have hl : ltInt (x.tmod m) 0 = false := by rw [ltInt_eq]; simpa using hneg
    exact ⟨x.tmod m, by omega, hlt, pureT_ok (O := opts G) (T := [(1, 2, .v (I (x.tmod m))), (2, 1, .b false)]) (F := [.lt (x.tmod m) 0 false, .gen (.binOp .rem 3 (.tmp 5) (.tmp 6) 3) [some (I x), some (I m)] (I (x.tmod m))]) rfl rfl (by kernel_rfl) ⟨hl, hrem, trivial⟩⟩

/-- The names that stand in locksmithhand.names. -/
def nameL : List (List UInt8) := [[85, 110, 105, 113, 117, 101, 32, 73, 100, 101, 110, 116, 105, 102, 105, 101, 114], [78, 97, 109, 101], [79, 98, 106, 101, 99, 116, 32, 84, 121, 112, 101], [67, 114, 121, 112, 116, 111, 103, 114, 97, 112, 104, 105, 99, 32, 65, 108, 103, 111, 114, 105, 116, 104, 109], [67, 114, 121, 112, 116, 111, 103, 114, 97, 112, 104, 105, 99, 32, 76, 101, 110, 103, 116, 104], [67, 114, 121, 112, 116, 111, 103, 114, 97, 112, 104, 105, 99, 32, 85, 115, 97, 103, 101, 32, 77, 97, 115, 107], [83, 116, 97, 116, 101], [73, 110, 105, 116, 105, 97, 108, 32, 68, 97, 116, 101], [65, 99, 116, 105, 118, 97, 116, 105, 111, 110, 32, 68, 97, 116, 101], [80, 114, 111, 99, 101, 115, 115, 32, 83, 116, 97, 114, 116, 32, 68, 97, 116, 101], [80, 114, 111, 116, 101, 99, 116, 32, 83, 116, 111, 112, 32, 68, 97, 116, 101], [68, 101, 97, 99, 116, 105, 118, 97, 116, 105, 111, 110, 32, 68, 97, 116, 101], [68, 101, 115, 116, 114, 111, 121, 32, 68, 97, 116, 101], [67, 111, 109, 112, 114, 111, 109, 105, 115, 101, 32, 79, 99, 99, 117, 114, 114, 101, 110, 99, 101, 32, 68, 97, 116, 101], [67, 111, 109, 112, 114, 111, 109, 105, 115, 101, 32, 68, 97, 116, 101], [65, 114, 99, 104, 105, 118, 101, 32, 68, 97, 116, 101], [76, 97, 115, 116, 32, 67, 104, 97, 110, 103, 101, 32, 68, 97, 116, 101], [82, 101, 118, 111, 99, 97, 116, 105, 111, 110, 32, 82, 101, 97, 115, 111, 110], [76, 105, 110, 107], [85, 115, 97, 103, 101, 32, 76, 105, 109, 105, 116, 115], [120, 45, 97], [120, 45, 98], [120, 45], [121]]
def gl : Glob := fun g => match Nat.beq g 0 with
  | true => some (nameL.map .str)
  | false => none

theorem name_says (x : Int) : ∃ s, s ∈ nameL ∧ Says gl (n + 2) 43 [I x] (.str s) := by
  obtain ⟨p, h0, h1, hp⟩ := pick_says (G := gl) (n := n) x 24 (by decide) (by decide)
  have hc : p = 0 ∨ p = 1 ∨ p = 2 ∨ p = 3 ∨ p = 4 ∨ p = 5 ∨ p = 6 ∨ p = 7 ∨ p = 8 ∨ p = 9 ∨ p = 10 ∨ p = 11 ∨ p = 12 ∨ p = 13 ∨ p = 14 ∨ p = 15 ∨ p = 16 ∨ p = 17 ∨ p = 18 ∨ p = 19 ∨ p = 20 ∨ p = 21 ∨ p = 22 ∨ p = 23 := by omega
  rcases hc with rfl | rfl | rfl | rfl | rfl | rfl | rfl | rfl | rfl | rfl | rfl | rfl | rfl | rfl | rfl | rfl | rfl | rfl | rfl | rfl | rfl | rfl | rfl | rfl
  · exact ⟨[85, 110, 105, 113, 117, 101, 32, 73, 100, 101, 110, 116, 105, 102, 105, 101, 114], by simp [nameL], pureT_ok (O := opts gl) (T := [(1, 1, .c (I 0))]) (F := [.call 23 [I x, I 24] (I 0)]) rfl rfl (by kernel_rfl) ⟨hp, trivial⟩⟩
  · exact ⟨[78, 97, 109, 101], by simp [nameL], pureT_ok (O := opts gl) (T := [(1, 1, .c (I 1))]) (F := [.call 23 [I x, I 24] (I 1)]) rfl rfl (by kernel_rfl) ⟨hp, trivial⟩⟩
  · exact ⟨[79, 98, 106, 101, 99, 116, 32, 84, 121, 112, 101], by simp [nameL], pureT_ok (O := opts gl) (T := [(1, 1, .c (I 2))]) (F := [.call 23 [I x, I 24] (I 2)]) rfl rfl (by kernel_rfl) ⟨hp, trivial⟩⟩
  · exact ⟨[67, 114, 121, 112, 116, 111, 103, 114, 97, 112, 104, 105, 99, 32, 65, 108, 103, 111, 114, 105, 116, 104, 109], by simp [nameL], pureT_ok (O := opts gl) (T := [(1, 1, .c (I 3))]) (F := [.call 23 [I x, I 24] (I 3)]) rfl rfl (by kernel_rfl) ⟨hp, trivial⟩⟩
  · exact ⟨[67, 114, 121, 112, 116, 111, 103, 114, 97, 112, 104, 105, 99, 32, 76, 101, 110, 103, 116, 104], by simp [nameL], pureT_ok (O := opts gl) (T := [(1, 1, .c (I 4))]) (F := [.call 23 [I x, I 24] (I 4)]) rfl rfl (by kernel_rfl) ⟨hp, trivial⟩⟩
  · exact ⟨[67, 114, 121, 112, 116, 111, 103, 114, 97, 112, 104, 105, 99, 32, 85, 115, 97, 103, 101, 32, 77, 97, 115, 107], by simp [nameL], pureT_ok (O := opts gl) (T := [(1, 1, .c (I 5))]) (F := [.call 23 [I x, I 24] (I 5)]) rfl rfl (by kernel_rfl) ⟨hp, trivial⟩⟩
  · exact ⟨[83, 116, 97, 116, 101], by simp [nameL], pureT_ok (O := opts gl) (T := [(1, 1, .c (I 6))]) (F := [.call 23 [I x, I 24] (I 6)]) rfl rfl (by kernel_rfl) ⟨hp, trivial⟩⟩
  · exact ⟨[73, 110, 105, 116, 105, 97, 108, 32, 68, 97, 116, 101], by simp [nameL], pureT_ok (O := opts gl) (T := [(1, 1, .c (I 7))]) (F := [.call 23 [I x, I 24] (I 7)]) rfl rfl (by kernel_rfl) ⟨hp, trivial⟩⟩
  · exact ⟨[65, 99, 116, 105, 118, 97, 116, 105, 111, 110, 32, 68, 97, 116, 101], by simp [nameL], pureT_ok (O := opts gl) (T := [(1, 1, .c (I 8))]) (F := [.call 23 [I x, I 24] (I 8)]) rfl rfl (by kernel_rfl) ⟨hp, trivial⟩⟩
  · exact ⟨[80, 114, 111, 99, 101, 115, 115, 32, 83, 116, 97, 114, 116, 32, 68, 97, 116, 101], by simp [nameL], pureT_ok (O := opts gl) (T := [(1, 1, .c (I 9))]) (F := [.call 23 [I x, I 24] (I 9)]) rfl rfl (by kernel_rfl) ⟨hp, trivial⟩⟩
  · exact ⟨[80, 114, 111, 116, 101, 99, 116, 32, 83, 116, 111, 112, 32, 68, 97, 116, 101], by simp [nameL], pureT_ok (O := opts gl) (T := [(1, 1, .c (I 10))]) (F := [.call 23 [I x, I 24] (I 10)]) rfl rfl (by kernel_rfl) ⟨hp, trivial⟩⟩
  · exact ⟨[68, 101, 97, 99, 116, 105, 118, 97, 116, 105, 111, 110, 32, 68, 97, 116, 101], by simp [nameL], pureT_ok (O := opts gl) (T := [(1, 1, .c (I 11))]) (F := [.call 23 [I x, I 24] (I 11)]) rfl rfl (by kernel_rfl) ⟨hp, trivial⟩⟩
  · exact ⟨[68, 101, 115, 116, 114, 111, 121, 32, 68, 97, 116, 101], by simp [nameL], pureT_ok (O := opts gl) (T := [(1, 1, .c (I 12))]) (F := [.call 23 [I x, I 24] (I 12)]) rfl rfl (by kernel_rfl) ⟨hp, trivial⟩⟩
  · exact ⟨[67, 111, 109, 112, 114, 111, 109, 105, 115, 101, 32, 79, 99, 99, 117, 114, 114, 101, 110, 99, 101, 32, 68, 97, 116, 101], by simp [nameL], pureT_ok (O := opts gl) (T := [(1, 1, .c (I 13))]) (F := [.call 23 [I x, I 24] (I 13)]) rfl rfl (by kernel_rfl) ⟨hp, trivial⟩⟩
  · exact ⟨[67, 111, 109, 112, 114, 111, 109, 105, 115, 101, 32, 68, 97, 116, 101], by simp [nameL], pureT_ok (O := opts gl) (T := [(1, 1, .c (I 14))]) (F := [.call 23 [I x, I 24] (I 14)]) rfl rfl (by kernel_rfl) ⟨hp, trivial⟩⟩
  · exact ⟨[65, 114, 99, 104, 105, 118, 101, 32, 68, 97, 116, 101], by simp [nameL], pureT_ok (O := opts gl) (T := [(1, 1, .c (I 15))]) (F := [.call 23 [I x, I 24] (I 15)]) rfl rfl (by kernel_rfl) ⟨hp, trivial⟩⟩
  · exact ⟨[76, 97, 115, 116, 32, 67, 104, 97, 110, 103, 101, 32, 68, 97, 116, 101], by simp [nameL], pureT_ok (O := opts gl) (T := [(1, 1, .c (I 16))]) (F := [.call 23 [I x, I 24] (I 16)]) rfl rfl (by kernel_rfl) ⟨hp, trivial⟩⟩
  · exact ⟨[82, 101, 118, 111, 99, 97, 116, 105, 111, 110, 32, 82, 101, 97, 115, 111, 110], by simp [nameL], pureT_ok (O := opts gl) (T := [(1, 1, .c (I 17))]) (F := [.call 23 [I x, I 24] (I 17)]) rfl rfl (by kernel_rfl) ⟨hp, trivial⟩⟩
  · exact ⟨[76, 105, 110, 107], by simp [nameL], pureT_ok (O := opts gl) (T := [(1, 1, .c (I 18))]) (F := [.call 23 [I x, I 24] (I 18)]) rfl rfl (by kernel_rfl) ⟨hp, trivial⟩⟩
  · exact ⟨[85, 115, 97, 103, 101, 32, 76, 105, 109, 105, 116, 115], by simp [nameL], pureT_ok (O := opts gl) (T := [(1, 1, .c (I 19))]) (F := [.call 23 [I x, I 24] (I 19)]) rfl rfl (by kernel_rfl) ⟨hp, trivial⟩⟩
  · exact ⟨[120, 45, 97], by simp [nameL], pureT_ok (O := opts gl) (T := [(1, 1, .c (I 20))]) (F := [.call 23 [I x, I 24] (I 20)]) rfl rfl (by kernel_rfl) ⟨hp, trivial⟩⟩
  · exact ⟨[120, 45, 98], by simp [nameL], pureT_ok (O := opts gl) (T := [(1, 1, .c (I 21))]) (F := [.call 23 [I x, I 24] (I 21)]) rfl rfl (by kernel_rfl) ⟨hp, trivial⟩⟩
  · exact ⟨[120, 45], by simp [nameL], pureT_ok (O := opts gl) (T := [(1, 1, .c (I 22))]) (F := [.call 23 [I x, I 24] (I 22)]) rfl rfl (by kernel_rfl) ⟨hp, trivial⟩⟩
  · exact ⟨[121], by simp [nameL], pureT_ok (O := opts gl) (T := [(1, 1, .c (I 23))]) (F := [.call 23 [I x, I 24] (I 23)]) rfl rfl (by kernel_rfl) ⟨hp, trivial⟩⟩

theorem id_says (x : Int) : ∃ s, s ∈ texts ∧ Says G (n + 2) 67 [I x] (.str s) := by
  obtain ⟨p, h0, h1, hp⟩ := pick_says (G := G) (n := n) x 12 (by decide) (by decide)
  have hc : p = 0 ∨ p = 1 ∨ p = 2 ∨ p = 3 ∨ p = 4 ∨ p = 5 ∨ p = 6 ∨ p = 7 ∨ p = 8 ∨ p = 9 ∨ p = 10 ∨ p = 11 := by omega
  rcases hc with rfl | rfl | rfl | rfl | rfl | rfl | rfl | rfl | rfl | rfl | rfl | rfl
  · exact ⟨[49], by simp [texts], pureT_ok (O := opts G) (T := [(1, 2, .c (I 0))]) (F := [.call 23 [I x, I 12] (I 0)]) rfl rfl (by kernel_rfl) ⟨hp, trivial⟩⟩
  · exact ⟨[50], by simp [texts], pureT_ok (O := opts G) (T := [(1, 2, .c (I 1))]) (F := [.call 23 [I x, I 12] (I 1)]) rfl rfl (by kernel_rfl) ⟨hp, trivial⟩⟩
  · exact ⟨[51], by simp [texts], pureT_ok (O := opts G) (T := [(1, 2, .c (I 2))]) (F := [.call 23 [I x, I 12] (I 2)]) rfl rfl (by kernel_rfl) ⟨hp, trivial⟩⟩
  · exact ⟨[52], by simp [texts], pureT_ok (O := opts G) (T := [(1, 2, .c (I 3))]) (F := [.call 23 [I x, I 12] (I 3)]) rfl rfl (by kernel_rfl) ⟨hp, trivial⟩⟩
  · exact ⟨[53], by simp [texts], pureT_ok (O := opts G) (T := [(1, 2, .c (I 4))]) (F := [.call 23 [I x, I 12] (I 4)]) rfl rfl (by kernel_rfl) ⟨hp, trivial⟩⟩
  · exact ⟨[54], by simp [texts], pureT_ok (O := opts G) (T := [(1, 2, .c (I 5))]) (F := [.call 23 [I x, I 12] (I 5)]) rfl rfl (by kernel_rfl) ⟨hp, trivial⟩⟩
  · exact ⟨[55], by simp [texts], pureT_ok (O := opts G) (T := [(1, 2, .c (I 6))]) (F := [.call 23 [I x, I 12] (I 6)]) rfl rfl (by kernel_rfl) ⟨hp, trivial⟩⟩
  · exact ⟨[49], by simp [texts], pureT_ok (O := opts G) (T := [(1, 2, .c (I 7))]) (F := [.call 23 [I x, I 12] (I 7)]) rfl rfl (by kernel_rfl) ⟨hp, trivial⟩⟩
  · exact ⟨[50], by simp [texts], pureT_ok (O := opts G) (T := [(1, 2, .c (I 8))]) (F := [.call 23 [I x, I 12] (I 8)]) rfl rfl (by kernel_rfl) ⟨hp, trivial⟩⟩
  · exact ⟨[51], by simp [texts], pureT_ok (O := opts G) (T := [(1, 2, .c (I 9))]) (F := [.call 23 [I x, I 12] (I 9)]) rfl rfl (by kernel_rfl) ⟨hp, trivial⟩⟩
  · exact ⟨[57, 57], by simp [texts], pureT_ok (O := opts G) (T := [(1, 2, .c (I 10))]) (F := [.call 23 [I x, I 12] (I 10)]) rfl rfl (by kernel_rfl) ⟨hp, trivial⟩⟩
  · exact ⟨[120], by simp [texts], pureT_ok (O := opts G) (T := [(1, 2, .c (I 11))]) (F := [.call 23 [I x, I 12] (I 11)]) rfl rfl (by kernel_rfl) ⟨hp, trivial⟩⟩

def rawAV (k a b c : Int) : AV := .agg [I k, I a, I b, I c]

/-- A Value that is made of a name and raw numbers. -/
def Made (s : List UInt8) (k a b c : Int) : Prop := ∃ v : Vl, v.may ∧ Says gl (n + 4) 60 [.str s, rawAV k a b c] (v.av true raw)

theorem value_0 (k a b c : Int) : Made (n := n) [85, 110, 105, 113, 117, 101, 32, 73, 100, 101, 110, 116, 105, 102, 105, 101, 114] k a b c := by
  obtain ⟨r, hr0, hr1, hr⟩ := pick_says (G := gl) (n := n + 2) c 17 (by decide) (by decide)
  by_cases h16 : r = 16
  · have hb : beqInt r 16 = true := by rw [beqInt_eq]; simpa using h16
    exact ⟨.num 2 (wrapA .i64 (wrapA .i32 a)), trivial, pureT_ok (O := opts gl) (T := [(1, 2, .c (I r)), (1, 3, .b true)]) (F := [.beq r 16 true, .call 23 [I c, I 17] (I r)]) rfl rfl (by kernel_rfl) ⟨hb, hr, trivial⟩⟩
  have hb : beqInt r 16 = false := by rw [beqInt_eq]; simpa using h16
  obtain ⟨p, p0, p1, hp⟩ := pick_says (G := gl) (n := n + 2) a 7 (by decide) (by decide)
  have hc : p = 0 ∨ p = 1 ∨ p = 2 ∨ p = 3 ∨ p = 4 ∨ p = 5 ∨ p = 6 := by omega
  rcases hc with rfl | rfl | rfl | rfl | rfl | rfl | rfl
  · exact ⟨.text [111, 110, 101], by simp [Vl.may, texts], pureT_ok (O := opts gl) (T := [(1, 2, .c (I r)), (1, 3, .b false), (10, 3, .c (I 0))]) (F := [.call 23 [I a, I 7] (I 0), .beq r 16 false, .call 23 [I c, I 17] (I r)]) rfl rfl (by kernel_rfl) ⟨hp, hb, hr, trivial⟩⟩
  · exact ⟨.text [116, 119, 111], by simp [Vl.may, texts], pureT_ok (O := opts gl) (T := [(1, 2, .c (I r)), (1, 3, .b false), (10, 3, .c (I 1))]) (F := [.call 23 [I a, I 7] (I 1), .beq r 16 false, .call 23 [I c, I 17] (I r)]) rfl rfl (by kernel_rfl) ⟨hp, hb, hr, trivial⟩⟩
  · exact ⟨.text [116, 104, 114, 101, 101], by simp [Vl.may, texts], pureT_ok (O := opts gl) (T := [(1, 2, .c (I r)), (1, 3, .b false), (10, 3, .c (I 2))]) (F := [.call 23 [I a, I 7] (I 2), .beq r 16 false, .call 23 [I c, I 17] (I r)]) rfl rfl (by kernel_rfl) ⟨hp, hb, hr, trivial⟩⟩
  · exact ⟨.text [102, 111, 117, 114], by simp [Vl.may, texts], pureT_ok (O := opts gl) (T := [(1, 2, .c (I r)), (1, 3, .b false), (10, 3, .c (I 3))]) (F := [.call 23 [I a, I 7] (I 3), .beq r 16 false, .call 23 [I c, I 17] (I r)]) rfl rfl (by kernel_rfl) ⟨hp, hb, hr, trivial⟩⟩
  · exact ⟨.text [], by simp [Vl.may, texts], pureT_ok (O := opts gl) (T := [(1, 2, .c (I r)), (1, 3, .b false), (10, 3, .c (I 4))]) (F := [.call 23 [I a, I 7] (I 4), .beq r 16 false, .call 23 [I c, I 17] (I r)]) rfl rfl (by kernel_rfl) ⟨hp, hb, hr, trivial⟩⟩
  · exact ⟨.text [53], by simp [Vl.may, texts], pureT_ok (O := opts gl) (T := [(1, 2, .c (I r)), (1, 3, .b false), (10, 3, .c (I 5))]) (F := [.call 23 [I a, I 7] (I 5), .beq r 16 false, .call 23 [I c, I 17] (I r)]) rfl rfl (by kernel_rfl) ⟨hp, hb, hr, trivial⟩⟩
  · exact ⟨.text [49], by simp [Vl.may, texts], pureT_ok (O := opts gl) (T := [(1, 2, .c (I r)), (1, 3, .b false), (10, 3, .c (I 6))]) (F := [.call 23 [I a, I 7] (I 6), .beq r 16 false, .call 23 [I c, I 17] (I r)]) rfl rfl (by kernel_rfl) ⟨hp, hb, hr, trivial⟩⟩

theorem value_1 (k a b c : Int) : Made (n := n) [78, 97, 109, 101] k a b c := by
  obtain ⟨r, hr0, hr1, hr⟩ := pick_says (G := gl) (n := n + 2) c 17 (by decide) (by decide)
  by_cases h16 : r = 16
  · have hb : beqInt r 16 = true := by rw [beqInt_eq]; simpa using h16
    exact ⟨.num 2 (wrapA .i64 (wrapA .i32 a)), trivial, pureT_ok (O := opts gl) (T := [(1, 2, .c (I r)), (1, 3, .b true)]) (F := [.beq r 16 true, .call 23 [I c, I 17] (I r)]) rfl rfl (by kernel_rfl) ⟨hb, hr, trivial⟩⟩
  have hb : beqInt r 16 = false := by rw [beqInt_eq]; simpa using h16
  obtain ⟨p, p0, p1, hp⟩ := pick_says (G := gl) (n := n + 2) a 7 (by decide) (by decide)
  have hc : p = 0 ∨ p = 1 ∨ p = 2 ∨ p = 3 ∨ p = 4 ∨ p = 5 ∨ p = 6 := by omega
  rcases hc with rfl | rfl | rfl | rfl | rfl | rfl | rfl
  · exact ⟨.text [111, 110, 101], by simp [Vl.may, texts], pureT_ok (O := opts gl) (T := [(1, 2, .c (I r)), (1, 3, .b false), (10, 3, .c (I 0))]) (F := [.call 23 [I a, I 7] (I 0), .beq r 16 false, .call 23 [I c, I 17] (I r)]) rfl rfl (by kernel_rfl) ⟨hp, hb, hr, trivial⟩⟩
  · exact ⟨.text [116, 119, 111], by simp [Vl.may, texts], pureT_ok (O := opts gl) (T := [(1, 2, .c (I r)), (1, 3, .b false), (10, 3, .c (I 1))]) (F := [.call 23 [I a, I 7] (I 1), .beq r 16 false, .call 23 [I c, I 17] (I r)]) rfl rfl (by kernel_rfl) ⟨hp, hb, hr, trivial⟩⟩
  · exact ⟨.text [116, 104, 114, 101, 101], by simp [Vl.may, texts], pureT_ok (O := opts gl) (T := [(1, 2, .c (I r)), (1, 3, .b false), (10, 3, .c (I 2))]) (F := [.call 23 [I a, I 7] (I 2), .beq r 16 false, .call 23 [I c, I 17] (I r)]) rfl rfl (by kernel_rfl) ⟨hp, hb, hr, trivial⟩⟩
  · exact ⟨.text [102, 111, 117, 114], by simp [Vl.may, texts], pureT_ok (O := opts gl) (T := [(1, 2, .c (I r)), (1, 3, .b false), (10, 3, .c (I 3))]) (F := [.call 23 [I a, I 7] (I 3), .beq r 16 false, .call 23 [I c, I 17] (I r)]) rfl rfl (by kernel_rfl) ⟨hp, hb, hr, trivial⟩⟩
  · exact ⟨.text [], by simp [Vl.may, texts], pureT_ok (O := opts gl) (T := [(1, 2, .c (I r)), (1, 3, .b false), (10, 3, .c (I 4))]) (F := [.call 23 [I a, I 7] (I 4), .beq r 16 false, .call 23 [I c, I 17] (I r)]) rfl rfl (by kernel_rfl) ⟨hp, hb, hr, trivial⟩⟩
  · exact ⟨.text [53], by simp [Vl.may, texts], pureT_ok (O := opts gl) (T := [(1, 2, .c (I r)), (1, 3, .b false), (10, 3, .c (I 5))]) (F := [.call 23 [I a, I 7] (I 5), .beq r 16 false, .call 23 [I c, I 17] (I r)]) rfl rfl (by kernel_rfl) ⟨hp, hb, hr, trivial⟩⟩
  · exact ⟨.text [49], by simp [Vl.may, texts], pureT_ok (O := opts gl) (T := [(1, 2, .c (I r)), (1, 3, .b false), (10, 3, .c (I 6))]) (F := [.call 23 [I a, I 7] (I 6), .beq r 16 false, .call 23 [I c, I 17] (I r)]) rfl rfl (by kernel_rfl) ⟨hp, hb, hr, trivial⟩⟩

theorem value_2 (k a b c : Int) : Made (n := n) [79, 98, 106, 101, 99, 116, 32, 84, 121, 112, 101] k a b c := by
  obtain ⟨r, hr0, hr1, hr⟩ := pick_says (G := gl) (n := n + 2) c 17 (by decide) (by decide)
  by_cases h16 : r = 16
  · have hb : beqInt r 16 = true := by rw [beqInt_eq]; simpa using h16
    exact ⟨.num 2 (wrapA .i64 (wrapA .i32 a)), trivial, pureT_ok (O := opts gl) (T := [(1, 2, .c (I r)), (1, 3, .b true)]) (F := [.beq r 16 true, .call 23 [I c, I 17] (I r)]) rfl rfl (by kernel_rfl) ⟨hb, hr, trivial⟩⟩
  have hb : beqInt r 16 = false := by rw [beqInt_eq]; simpa using h16
  obtain ⟨p, p0, p1, hp⟩ := pick_says (G := gl) (n := n + 2) a 8 (by decide) (by decide)
  exact ⟨.num 5 p, trivial, pureT_ok (O := opts gl) (T := [(1, 2, .c (I r)), (1, 3, .b false), (13, 2, .c (I p))]) (F := [.call 23 [I a, I 8] (I p), .beq r 16 false, .call 23 [I c, I 17] (I r)]) rfl rfl (by kernel_rfl) ⟨hp, hb, hr, trivial⟩⟩

theorem value_3 (k a b c : Int) : Made (n := n) [67, 114, 121, 112, 116, 111, 103, 114, 97, 112, 104, 105, 99, 32, 65, 108, 103, 111, 114, 105, 116, 104, 109] k a b c := by
  obtain ⟨r, hr0, hr1, hr⟩ := pick_says (G := gl) (n := n + 2) c 17 (by decide) (by decide)
  by_cases h16 : r = 16
  · have hb : beqInt r 16 = true := by rw [beqInt_eq]; simpa using h16
    exact ⟨.num 2 (wrapA .i64 (wrapA .i32 a)), trivial, pureT_ok (O := opts gl) (T := [(1, 2, .c (I r)), (1, 3, .b true)]) (F := [.beq r 16 true, .call 23 [I c, I 17] (I r)]) rfl rfl (by kernel_rfl) ⟨hb, hr, trivial⟩⟩
  have hb : beqInt r 16 = false := by rw [beqInt_eq]; simpa using h16
  obtain ⟨p, p0, p1, hp⟩ := pick_says (G := gl) (n := n + 2) a 5 (by decide) (by decide)
  have hc : p = 0 ∨ p = 1 ∨ p = 2 ∨ p = 3 ∨ p = 4 := by omega
  rcases hc with rfl | rfl | rfl | rfl | rfl
  · exact ⟨.num 5 3, trivial, pureT_ok (O := opts gl) (T := [(1, 2, .c (I r)), (1, 3, .b false), (15, 3, .c (I 0))]) (F := [.call 23 [I a, I 5] (I 0), .beq r 16 false, .call 23 [I c, I 17] (I r)]) rfl rfl (by kernel_rfl) ⟨hp, hb, hr, trivial⟩⟩
  · exact ⟨.num 5 3, trivial, pureT_ok (O := opts gl) (T := [(1, 2, .c (I r)), (1, 3, .b false), (15, 3, .c (I 1))]) (F := [.call 23 [I a, I 5] (I 1), .beq r 16 false, .call 23 [I c, I 17] (I r)]) rfl rfl (by kernel_rfl) ⟨hp, hb, hr, trivial⟩⟩
  · exact ⟨.num 5 4, trivial, pureT_ok (O := opts gl) (T := [(1, 2, .c (I r)), (1, 3, .b false), (15, 3, .c (I 2))]) (F := [.call 23 [I a, I 5] (I 2), .beq r 16 false, .call 23 [I c, I 17] (I r)]) rfl rfl (by kernel_rfl) ⟨hp, hb, hr, trivial⟩⟩
  · exact ⟨.num 5 0, trivial, pureT_ok (O := opts gl) (T := [(1, 2, .c (I r)), (1, 3, .b false), (15, 3, .c (I 3))]) (F := [.call 23 [I a, I 5] (I 3), .beq r 16 false, .call 23 [I c, I 17] (I r)]) rfl rfl (by kernel_rfl) ⟨hp, hb, hr, trivial⟩⟩
  · exact ⟨.num 5 101, trivial, pureT_ok (O := opts gl) (T := [(1, 2, .c (I r)), (1, 3, .b false), (15, 3, .c (I 4))]) (F := [.call 23 [I a, I 5] (I 4), .beq r 16 false, .call 23 [I c, I 17] (I r)]) rfl rfl (by kernel_rfl) ⟨hp, hb, hr, trivial⟩⟩

theorem value_4 (k a b c : Int) : Made (n := n) [67, 114, 121, 112, 116, 111, 103, 114, 97, 112, 104, 105, 99, 32, 76, 101, 110, 103, 116, 104] k a b c := by
  obtain ⟨r, hr0, hr1, hr⟩ := pick_says (G := gl) (n := n + 2) c 17 (by decide) (by decide)
  by_cases h16 : r = 16
  · have hb : beqInt r 16 = true := by rw [beqInt_eq]; simpa using h16
    exact ⟨.num 2 (wrapA .i64 (wrapA .i32 a)), trivial, pureT_ok (O := opts gl) (T := [(1, 2, .c (I r)), (1, 3, .b true)]) (F := [.beq r 16 true, .call 23 [I c, I 17] (I r)]) rfl rfl (by kernel_rfl) ⟨hb, hr, trivial⟩⟩
  have hb : beqInt r 16 = false := by rw [beqInt_eq]; simpa using h16
  obtain ⟨p, p0, p1, hp⟩ := pick_says (G := gl) (n := n + 2) a 7 (by decide) (by decide)
  have hc : p = 0 ∨ p = 1 ∨ p = 2 ∨ p = 3 ∨ p = 4 ∨ p = 5 ∨ p = 6 := by omega
  rcases hc with rfl | rfl | rfl | rfl | rfl | rfl | rfl
  · exact ⟨.num 2 128, trivial, pureT_ok (O := opts gl) (T := [(1, 2, .c (I r)), (1, 3, .b false), (17, 3, .c (I 0))]) (F := [.call 23 [I a, I 7] (I 0), .beq r 16 false, .call 23 [I c, I 17] (I r)]) rfl rfl (by kernel_rfl) ⟨hp, hb, hr, trivial⟩⟩
  · exact ⟨.num 2 192, trivial, pureT_ok (O := opts gl) (T := [(1, 2, .c (I r)), (1, 3, .b false), (17, 3, .c (I 1))]) (F := [.call 23 [I a, I 7] (I 1), .beq r 16 false, .call 23 [I c, I 17] (I r)]) rfl rfl (by kernel_rfl) ⟨hp, hb, hr, trivial⟩⟩
  · exact ⟨.num 2 256, trivial, pureT_ok (O := opts gl) (T := [(1, 2, .c (I r)), (1, 3, .b false), (17, 3, .c (I 2))]) (F := [.call 23 [I a, I 7] (I 2), .beq r 16 false, .call 23 [I c, I 17] (I r)]) rfl rfl (by kernel_rfl) ⟨hp, hb, hr, trivial⟩⟩
  · exact ⟨.num 2 1024, trivial, pureT_ok (O := opts gl) (T := [(1, 2, .c (I r)), (1, 3, .b false), (17, 3, .c (I 3))]) (F := [.call 23 [I a, I 7] (I 3), .beq r 16 false, .call 23 [I c, I 17] (I r)]) rfl rfl (by kernel_rfl) ⟨hp, hb, hr, trivial⟩⟩
  · exact ⟨.num 2 2048, trivial, pureT_ok (O := opts gl) (T := [(1, 2, .c (I r)), (1, 3, .b false), (17, 3, .c (I 4))]) (F := [.call 23 [I a, I 7] (I 4), .beq r 16 false, .call 23 [I c, I 17] (I r)]) rfl rfl (by kernel_rfl) ⟨hp, hb, hr, trivial⟩⟩
  · exact ⟨.num 2 0, trivial, pureT_ok (O := opts gl) (T := [(1, 2, .c (I r)), (1, 3, .b false), (17, 3, .c (I 5))]) (F := [.call 23 [I a, I 7] (I 5), .beq r 16 false, .call 23 [I c, I 17] (I r)]) rfl rfl (by kernel_rfl) ⟨hp, hb, hr, trivial⟩⟩
  · exact ⟨.num 2 64, trivial, pureT_ok (O := opts gl) (T := [(1, 2, .c (I r)), (1, 3, .b false), (17, 3, .c (I 6))]) (F := [.call 23 [I a, I 7] (I 6), .beq r 16 false, .call 23 [I c, I 17] (I r)]) rfl rfl (by kernel_rfl) ⟨hp, hb, hr, trivial⟩⟩

theorem value_5 (k a b c : Int) : Made (n := n) [67, 114, 121, 112, 116, 111, 103, 114, 97, 112, 104, 105, 99, 32, 85, 115, 97, 103, 101, 32, 77, 97, 115, 107] k a b c := by
  obtain ⟨r, hr0, hr1, hr⟩ := pick_says (G := gl) (n := n + 2) c 17 (by decide) (by decide)
  by_cases h16 : r = 16
  · have hb : beqInt r 16 = true := by rw [beqInt_eq]; simpa using h16
    exact ⟨.num 2 (wrapA .i64 (wrapA .i32 a)), trivial, pureT_ok (O := opts gl) (T := [(1, 2, .c (I r)), (1, 3, .b true)]) (F := [.beq r 16 true, .call 23 [I c, I 17] (I r)]) rfl rfl (by kernel_rfl) ⟨hb, hr, trivial⟩⟩
  have hb : beqInt r 16 = false := by rw [beqInt_eq]; simpa using h16
  obtain ⟨p, p0, p1, hp⟩ := pick_says (G := gl) (n := n + 2) a 7 (by decide) (by decide)
  have hc : p = 0 ∨ p = 1 ∨ p = 2 ∨ p = 3 ∨ p = 4 ∨ p = 5 ∨ p = 6 := by omega
  rcases hc with rfl | rfl | rfl | rfl | rfl | rfl | rfl
  · exact ⟨.num 2 396, trivial, pureT_ok (O := opts gl) (T := [(1, 2, .c (I r)), (1, 3, .b false), (19, 3, .c (I 0))]) (F := [.call 23 [I a, I 7] (I 0), .beq r 16 false, .call 23 [I c, I 17] (I r)]) rfl rfl (by kernel_rfl) ⟨hp, hb, hr, trivial⟩⟩
  · exact ⟨.num 2 12, trivial, pureT_ok (O := opts gl) (T := [(1, 2, .c (I r)), (1, 3, .b false), (19, 3, .c (I 1))]) (F := [.call 23 [I a, I 7] (I 1), .beq r 16 false, .call 23 [I c, I 17] (I r)]) rfl rfl (by kernel_rfl) ⟨hp, hb, hr, trivial⟩⟩
  · exact ⟨.num 2 4, trivial, pureT_ok (O := opts gl) (T := [(1, 2, .c (I r)), (1, 3, .b false), (19, 3, .c (I 2))]) (F := [.call 23 [I a, I 7] (I 2), .beq r 16 false, .call 23 [I c, I 17] (I r)]) rfl rfl (by kernel_rfl) ⟨hp, hb, hr, trivial⟩⟩
  · exact ⟨.num 2 0, trivial, pureT_ok (O := opts gl) (T := [(1, 2, .c (I r)), (1, 3, .b false), (19, 3, .c (I 3))]) (F := [.call 23 [I a, I 7] (I 3), .beq r 16 false, .call 23 [I c, I 17] (I r)]) rfl rfl (by kernel_rfl) ⟨hp, hb, hr, trivial⟩⟩
  · exact ⟨.num 2 384, trivial, pureT_ok (O := opts gl) (T := [(1, 2, .c (I r)), (1, 3, .b false), (19, 3, .c (I 4))]) (F := [.call 23 [I a, I 7] (I 4), .beq r 16 false, .call 23 [I c, I 17] (I r)]) rfl rfl (by kernel_rfl) ⟨hp, hb, hr, trivial⟩⟩
  · exact ⟨.num 2 2097152, trivial, pureT_ok (O := opts gl) (T := [(1, 2, .c (I r)), (1, 3, .b false), (19, 3, .c (I 5))]) (F := [.call 23 [I a, I 7] (I 5), .beq r 16 false, .call 23 [I c, I 17] (I r)]) rfl rfl (by kernel_rfl) ⟨hp, hb, hr, trivial⟩⟩
  · exact ⟨.num 2 8, trivial, pureT_ok (O := opts gl) (T := [(1, 2, .c (I r)), (1, 3, .b false), (19, 3, .c (I 6))]) (F := [.call 23 [I a, I 7] (I 6), .beq r 16 false, .call 23 [I c, I 17] (I r)]) rfl rfl (by kernel_rfl) ⟨hp, hb, hr, trivial⟩⟩

theorem value_6 (k a b c : Int) : Made (n := n) [83, 116, 97, 116, 101] k a b c := by
  obtain ⟨r, hr0, hr1, hr⟩ := pick_says (G := gl) (n := n + 2) c 17 (by decide) (by decide)
  by_cases h16 : r = 16
  · have hb : beqInt r 16 = true := by rw [beqInt_eq]; simpa using h16
    exact ⟨.num 2 (wrapA .i64 (wrapA .i32 a)), trivial, pureT_ok (O := opts gl) (T := [(1, 2, .c (I r)), (1, 3, .b true)]) (F := [.beq r 16 true, .call 23 [I c, I 17] (I r)]) rfl rfl (by kernel_rfl) ⟨hb, hr, trivial⟩⟩
  have hb : beqInt r 16 = false := by rw [beqInt_eq]; simpa using h16
  obtain ⟨p, p0, p1, hp⟩ := pick_says (G := gl) (n := n + 2) a 8 (by decide) (by decide)
  exact ⟨.num 5 p, trivial, pureT_ok (O := opts gl) (T := [(1, 2, .c (I r)), (1, 3, .b false), (13, 2, .c (I p))]) (F := [.call 23 [I a, I 8] (I p), .beq r 16 false, .call 23 [I c, I 17] (I r)]) rfl rfl (by kernel_rfl) ⟨hp, hb, hr, trivial⟩⟩

theorem value_7 (k a b c : Int) : Made (n := n) [73, 110, 105, 116, 105, 97, 108, 32, 68, 97, 116, 101] k a b c := by
  obtain ⟨r, hr0, hr1, hr⟩ := pick_says (G := gl) (n := n + 2) c 17 (by decide) (by decide)
  by_cases h16 : r = 16
  · have hb : beqInt r 16 = true := by rw [beqInt_eq]; simpa using h16
    exact ⟨.num 2 (wrapA .i64 (wrapA .i32 a)), trivial, pureT_ok (O := opts gl) (T := [(1, 2, .c (I r)), (1, 3, .b true)]) (F := [.beq r 16 true, .call 23 [I c, I 17] (I r)]) rfl rfl (by kernel_rfl) ⟨hb, hr, trivial⟩⟩
  have hb : beqInt r 16 = false := by rw [beqInt_eq]; simpa using h16
  obtain ⟨p, p0, p1, hp⟩ := pick_says (G := gl) (n := n + 2) a 60 (by decide) (by decide)
  exact ⟨.num 9 p, trivial, pureT_ok (O := opts gl) (T := [(1, 2, .c (I r)), (1, 3, .b false), (30, 2, .c (I p))]) (F := [.call 23 [I a, I 60] (I p), .beq r 16 false, .call 23 [I c, I 17] (I r)]) rfl rfl (by kernel_rfl) ⟨hp, hb, hr, trivial⟩⟩

theorem value_8 (k a b c : Int) : Made (n := n) [65, 99, 116, 105, 118, 97, 116, 105, 111, 110, 32, 68, 97, 116, 101] k a b c := by
  obtain ⟨r, hr0, hr1, hr⟩ := pick_says (G := gl) (n := n + 2) c 17 (by decide) (by decide)
  by_cases h16 : r = 16
  · have hb : beqInt r 16 = true := by rw [beqInt_eq]; simpa using h16
    exact ⟨.num 2 (wrapA .i64 (wrapA .i32 a)), trivial, pureT_ok (O := opts gl) (T := [(1, 2, .c (I r)), (1, 3, .b true)]) (F := [.beq r 16 true, .call 23 [I c, I 17] (I r)]) rfl rfl (by kernel_rfl) ⟨hb, hr, trivial⟩⟩
  have hb : beqInt r 16 = false := by rw [beqInt_eq]; simpa using h16
  obtain ⟨p, p0, p1, hp⟩ := pick_says (G := gl) (n := n + 2) a 60 (by decide) (by decide)
  exact ⟨.num 9 p, trivial, pureT_ok (O := opts gl) (T := [(1, 2, .c (I r)), (1, 3, .b false), (30, 2, .c (I p))]) (F := [.call 23 [I a, I 60] (I p), .beq r 16 false, .call 23 [I c, I 17] (I r)]) rfl rfl (by kernel_rfl) ⟨hp, hb, hr, trivial⟩⟩

theorem value_9 (k a b c : Int) : Made (n := n) [80, 114, 111, 99, 101, 115, 115, 32, 83, 116, 97, 114, 116, 32, 68, 97, 116, 101] k a b c := by
  obtain ⟨r, hr0, hr1, hr⟩ := pick_says (G := gl) (n := n + 2) c 17 (by decide) (by decide)
  by_cases h16 : r = 16
  · have hb : beqInt r 16 = true := by rw [beqInt_eq]; simpa using h16
    exact ⟨.num 2 (wrapA .i64 (wrapA .i32 a)), trivial, pureT_ok (O := opts gl) (T := [(1, 2, .c (I r)), (1, 3, .b true)]) (F := [.beq r 16 true, .call 23 [I c, I 17] (I r)]) rfl rfl (by kernel_rfl) ⟨hb, hr, trivial⟩⟩
  have hb : beqInt r 16 = false := by rw [beqInt_eq]; simpa using h16
  obtain ⟨p, p0, p1, hp⟩ := pick_says (G := gl) (n := n + 2) a 60 (by decide) (by decide)
  exact ⟨.num 9 p, trivial, pureT_ok (O := opts gl) (T := [(1, 2, .c (I r)), (1, 3, .b false), (30, 2, .c (I p))]) (F := [.call 23 [I a, I 60] (I p), .beq r 16 false, .call 23 [I c, I 17] (I r)]) rfl rfl (by kernel_rfl) ⟨hp, hb, hr, trivial⟩⟩

theorem value_10 (k a b c : Int) : Made (n := n) [80, 114, 111, 116, 101, 99, 116, 32, 83, 116, 111, 112, 32, 68, 97, 116, 101] k a b c := by
  obtain ⟨r, hr0, hr1, hr⟩ := pick_says (G := gl) (n := n + 2) c 17 (by decide) (by decide)
  by_cases h16 : r = 16
  · have hb : beqInt r 16 = true := by rw [beqInt_eq]; simpa using h16
    exact ⟨.num 2 (wrapA .i64 (wrapA .i32 a)), trivial, pureT_ok (O := opts gl) (T := [(1, 2, .c (I r)), (1, 3, .b true)]) (F := [.beq r 16 true, .call 23 [I c, I 17] (I r)]) rfl rfl (by kernel_rfl) ⟨hb, hr, trivial⟩⟩
  have hb : beqInt r 16 = false := by rw [beqInt_eq]; simpa using h16
  obtain ⟨p, p0, p1, hp⟩ := pick_says (G := gl) (n := n + 2) a 60 (by decide) (by decide)
  exact ⟨.num 9 p, trivial, pureT_ok (O := opts gl) (T := [(1, 2, .c (I r)), (1, 3, .b false), (30, 2, .c (I p))]) (F := [.call 23 [I a, I 60] (I p), .beq r 16 false, .call 23 [I c, I 17] (I r)]) rfl rfl (by kernel_rfl) ⟨hp, hb, hr, trivial⟩⟩

theorem value_11 (k a b c : Int) : Made (n := n) [68, 101, 97, 99, 116, 105, 118, 97, 116, 105, 111, 110, 32, 68, 97, 116, 101] k a b c := by
  obtain ⟨r, hr0, hr1, hr⟩ := pick_says (G := gl) (n := n + 2) c 17 (by decide) (by decide)
  by_cases h16 : r = 16
  · have hb : beqInt r 16 = true := by rw [beqInt_eq]; simpa using h16
    exact ⟨.num 2 (wrapA .i64 (wrapA .i32 a)), trivial, pureT_ok (O := opts gl) (T := [(1, 2, .c (I r)), (1, 3, .b true)]) (F := [.beq r 16 true, .call 23 [I c, I 17] (I r)]) rfl rfl (by kernel_rfl) ⟨hb, hr, trivial⟩⟩
  have hb : beqInt r 16 = false := by rw [beqInt_eq]; simpa using h16
  obtain ⟨p, p0, p1, hp⟩ := pick_says (G := gl) (n := n + 2) a 60 (by decide) (by decide)
  exact ⟨.num 9 p, trivial, pureT_ok (O := opts gl) (T := [(1, 2, .c (I r)), (1, 3, .b false), (30, 2, .c (I p))]) (F := [.call 23 [I a, I 60] (I p), .beq r 16 false, .call 23 [I c, I 17] (I r)]) rfl rfl (by kernel_rfl) ⟨hp, hb, hr, trivial⟩⟩

theorem value_12 (k a b c : Int) : Made (n := n) [68, 101, 115, 116, 114, 111, 121, 32, 68, 97, 116, 101] k a b c := by
  obtain ⟨r, hr0, hr1, hr⟩ := pick_says (G := gl) (n := n + 2) c 17 (by decide) (by decide)
  by_cases h16 : r = 16
  · have hb : beqInt r 16 = true := by rw [beqInt_eq]; simpa using h16
    exact ⟨.num 2 (wrapA .i64 (wrapA .i32 a)), trivial, pureT_ok (O := opts gl) (T := [(1, 2, .c (I r)), (1, 3, .b true)]) (F := [.beq r 16 true, .call 23 [I c, I 17] (I r)]) rfl rfl (by kernel_rfl) ⟨hb, hr, trivial⟩⟩
  have hb : beqInt r 16 = false := by rw [beqInt_eq]; simpa using h16
  obtain ⟨p, p0, p1, hp⟩ := pick_says (G := gl) (n := n + 2) a 60 (by decide) (by decide)
  exact ⟨.num 9 p, trivial, pureT_ok (O := opts gl) (T := [(1, 2, .c (I r)), (1, 3, .b false), (30, 2, .c (I p))]) (F := [.call 23 [I a, I 60] (I p), .beq r 16 false, .call 23 [I c, I 17] (I r)]) rfl rfl (by kernel_rfl) ⟨hp, hb, hr, trivial⟩⟩

theorem value_13 (k a b c : Int) : Made (n := n) [67, 111, 109, 112, 114, 111, 109, 105, 115, 101, 32, 79, 99, 99, 117, 114, 114, 101, 110, 99, 101, 32, 68, 97, 116, 101] k a b c := by
  obtain ⟨r, hr0, hr1, hr⟩ := pick_says (G := gl) (n := n + 2) c 17 (by decide) (by decide)
  by_cases h16 : r = 16
  · have hb : beqInt r 16 = true := by rw [beqInt_eq]; simpa using h16
    exact ⟨.num 2 (wrapA .i64 (wrapA .i32 a)), trivial, pureT_ok (O := opts gl) (T := [(1, 2, .c (I r)), (1, 3, .b true)]) (F := [.beq r 16 true, .call 23 [I c, I 17] (I r)]) rfl rfl (by kernel_rfl) ⟨hb, hr, trivial⟩⟩
  have hb : beqInt r 16 = false := by rw [beqInt_eq]; simpa using h16
  obtain ⟨p, p0, p1, hp⟩ := pick_says (G := gl) (n := n + 2) a 60 (by decide) (by decide)
  exact ⟨.num 9 p, trivial, pureT_ok (O := opts gl) (T := [(1, 2, .c (I r)), (1, 3, .b false), (30, 2, .c (I p))]) (F := [.call 23 [I a, I 60] (I p), .beq r 16 false, .call 23 [I c, I 17] (I r)]) rfl rfl (by kernel_rfl) ⟨hp, hb, hr, trivial⟩⟩

theorem value_14 (k a b c : Int) : Made (n := n) [67, 111, 109, 112, 114, 111, 109, 105, 115, 101, 32, 68, 97, 116, 101] k a b c := by
  obtain ⟨r, hr0, hr1, hr⟩ := pick_says (G := gl) (n := n + 2) c 17 (by decide) (by decide)
  by_cases h16 : r = 16
  · have hb : beqInt r 16 = true := by rw [beqInt_eq]; simpa using h16
    exact ⟨.num 2 (wrapA .i64 (wrapA .i32 a)), trivial, pureT_ok (O := opts gl) (T := [(1, 2, .c (I r)), (1, 3, .b true)]) (F := [.beq r 16 true, .call 23 [I c, I 17] (I r)]) rfl rfl (by kernel_rfl) ⟨hb, hr, trivial⟩⟩
  have hb : beqInt r 16 = false := by rw [beqInt_eq]; simpa using h16
  obtain ⟨p, p0, p1, hp⟩ := pick_says (G := gl) (n := n + 2) a 60 (by decide) (by decide)
  exact ⟨.num 9 p, trivial, pureT_ok (O := opts gl) (T := [(1, 2, .c (I r)), (1, 3, .b false), (30, 2, .c (I p))]) (F := [.call 23 [I a, I 60] (I p), .beq r 16 false, .call 23 [I c, I 17] (I r)]) rfl rfl (by kernel_rfl) ⟨hp, hb, hr, trivial⟩⟩

theorem value_15 (k a b c : Int) : Made (n := n) [65, 114, 99, 104, 105, 118, 101, 32, 68, 97, 116, 101] k a b c := by
  obtain ⟨r, hr0, hr1, hr⟩ := pick_says (G := gl) (n := n + 2) c 17 (by decide) (by decide)
  by_cases h16 : r = 16
  · have hb : beqInt r 16 = true := by rw [beqInt_eq]; simpa using h16
    exact ⟨.num 2 (wrapA .i64 (wrapA .i32 a)), trivial, pureT_ok (O := opts gl) (T := [(1, 2, .c (I r)), (1, 3, .b true)]) (F := [.beq r 16 true, .call 23 [I c, I 17] (I r)]) rfl rfl (by kernel_rfl) ⟨hb, hr, trivial⟩⟩
  have hb : beqInt r 16 = false := by rw [beqInt_eq]; simpa using h16
  obtain ⟨p, p0, p1, hp⟩ := pick_says (G := gl) (n := n + 2) a 60 (by decide) (by decide)
  exact ⟨.num 9 p, trivial, pureT_ok (O := opts gl) (T := [(1, 2, .c (I r)), (1, 3, .b false), (30, 2, .c (I p))]) (F := [.call 23 [I a, I 60] (I p), .beq r 16 false, .call 23 [I c, I 17] (I r)]) rfl rfl (by kernel_rfl) ⟨hp, hb, hr, trivial⟩⟩

theorem value_16 (k a b c : Int) : Made (n := n) [76, 97, 115, 116, 32, 67, 104, 97, 110, 103, 101, 32, 68, 97, 116, 101] k a b c := by
  obtain ⟨r, hr0, hr1, hr⟩ := pick_says (G := gl) (n := n + 2) c 17 (by decide) (by decide)
  by_cases h16 : r = 16
  · have hb : beqInt r 16 = true := by rw [beqInt_eq]; simpa using h16
    exact ⟨.num 2 (wrapA .i64 (wrapA .i32 a)), trivial, pureT_ok (O := opts gl) (T := [(1, 2, .c (I r)), (1, 3, .b true)]) (F := [.beq r 16 true, .call 23 [I c, I 17] (I r)]) rfl rfl (by kernel_rfl) ⟨hb, hr, trivial⟩⟩
  have hb : beqInt r 16 = false := by rw [beqInt_eq]; simpa using h16
  obtain ⟨p, p0, p1, hp⟩ := pick_says (G := gl) (n := n + 2) a 60 (by decide) (by decide)
  exact ⟨.num 9 p, trivial, pureT_ok (O := opts gl) (T := [(1, 2, .c (I r)), (1, 3, .b false), (30, 2, .c (I p))]) (F := [.call 23 [I a, I 60] (I p), .beq r 16 false, .call 23 [I c, I 17] (I r)]) rfl rfl (by kernel_rfl) ⟨hp, hb, hr, trivial⟩⟩

theorem value_17 (k a b c : Int) : Made (n := n) [82, 101, 118, 111, 99, 97, 116, 105, 111, 110, 32, 82, 101, 97, 115, 111, 110] k a b c := by
  obtain ⟨r, hr0, hr1, hr⟩ := pick_says (G := gl) (n := n + 2) c 17 (by decide) (by decide)
  by_cases h16 : r = 16
  · have hb : beqInt r 16 = true := by rw [beqInt_eq]; simpa using h16
    exact ⟨.num 2 (wrapA .i64 (wrapA .i32 a)), trivial, pureT_ok (O := opts gl) (T := [(1, 2, .c (I r)), (1, 3, .b true)]) (F := [.beq r 16 true, .call 23 [I c, I 17] (I r)]) rfl rfl (by kernel_rfl) ⟨hb, hr, trivial⟩⟩
  have hb : beqInt r 16 = false := by rw [beqInt_eq]; simpa using h16
  obtain ⟨p, p0, p1, hp⟩ := pick_says (G := gl) (n := n + 2) a 9 (by decide) (by decide)
  exact ⟨.reason p, trivial, pureT_ok (O := opts gl) (T := [(1, 2, .c (I r)), (1, 3, .b false), (21, 2, .c (I p))]) (F := [.call 23 [I a, I 9] (I p), .beq r 16 false, .call 23 [I c, I 17] (I r)]) rfl rfl (by kernel_rfl) ⟨hp, hb, hr, trivial⟩⟩

theorem value_18 (k a b c : Int) : Made (n := n) [76, 105, 110, 107] k a b c := by
  obtain ⟨r, hr0, hr1, hr⟩ := pick_says (G := gl) (n := n + 2) c 17 (by decide) (by decide)
  by_cases h16 : r = 16
  · have hb : beqInt r 16 = true := by rw [beqInt_eq]; simpa using h16
    exact ⟨.num 2 (wrapA .i64 (wrapA .i32 a)), trivial, pureT_ok (O := opts gl) (T := [(1, 2, .c (I r)), (1, 3, .b true)]) (F := [.beq r 16 true, .call 23 [I c, I 17] (I r)]) rfl rfl (by kernel_rfl) ⟨hb, hr, trivial⟩⟩
  have hb : beqInt r 16 = false := by rw [beqInt_eq]; simpa using h16
  obtain ⟨p, p0, p1, hp⟩ := pick_says (G := gl) (n := n + 2) a 12 (by decide) (by decide)
  obtain ⟨s, hs, hi⟩ := id_says (G := gl) (n := n + 1) b
  have hs' := hs
  simp only [texts, List.mem_cons, List.not_mem_nil, or_false] at hs'
  rcases hs' with rfl | rfl | rfl | rfl | rfl | rfl | rfl | rfl | rfl | rfl | rfl | rfl | rfl | rfl
  · exact ⟨.link (wrapA .i64 (100 + p)) [111, 110, 101], hs, pureT_ok (O := opts gl) (T := [(1, 2, .c (I r)), (1, 3, .b false), (23, 2, .c (I p)), (23, 7, .c (.str [111, 110, 101]))]) (F := [.call 67 [I b] (.str [111, 110, 101]), .call 23 [I a, I 12] (I p), .beq r 16 false, .call 23 [I c, I 17] (I r)]) rfl rfl (by kernel_rfl) ⟨hi, hp, hb, hr, trivial⟩⟩
  · exact ⟨.link (wrapA .i64 (100 + p)) [116, 119, 111], hs, pureT_ok (O := opts gl) (T := [(1, 2, .c (I r)), (1, 3, .b false), (23, 2, .c (I p)), (23, 7, .c (.str [116, 119, 111]))]) (F := [.call 67 [I b] (.str [116, 119, 111]), .call 23 [I a, I 12] (I p), .beq r 16 false, .call 23 [I c, I 17] (I r)]) rfl rfl (by kernel_rfl) ⟨hi, hp, hb, hr, trivial⟩⟩
  · exact ⟨.link (wrapA .i64 (100 + p)) [116, 104, 114, 101, 101], hs, pureT_ok (O := opts gl) (T := [(1, 2, .c (I r)), (1, 3, .b false), (23, 2, .c (I p)), (23, 7, .c (.str [116, 104, 114, 101, 101]))]) (F := [.call 67 [I b] (.str [116, 104, 114, 101, 101]), .call 23 [I a, I 12] (I p), .beq r 16 false, .call 23 [I c, I 17] (I r)]) rfl rfl (by kernel_rfl) ⟨hi, hp, hb, hr, trivial⟩⟩
  · exact ⟨.link (wrapA .i64 (100 + p)) [102, 111, 117, 114], hs, pureT_ok (O := opts gl) (T := [(1, 2, .c (I r)), (1, 3, .b false), (23, 2, .c (I p)), (23, 7, .c (.str [102, 111, 117, 114]))]) (F := [.call 67 [I b] (.str [102, 111, 117, 114]), .call 23 [I a, I 12] (I p), .beq r 16 false, .call 23 [I c, I 17] (I r)]) rfl rfl (by kernel_rfl) ⟨hi, hp, hb, hr, trivial⟩⟩
  · exact ⟨.link (wrapA .i64 (100 + p)) [], hs, pureT_ok (O := opts gl) (T := [(1, 2, .c (I r)), (1, 3, .b false), (23, 2, .c (I p)), (23, 7, .c (.str []))]) (F := [.call 67 [I b] (.str []), .call 23 [I a, I 12] (I p), .beq r 16 false, .call 23 [I c, I 17] (I r)]) rfl rfl (by kernel_rfl) ⟨hi, hp, hb, hr, trivial⟩⟩
  · exact ⟨.link (wrapA .i64 (100 + p)) [53], hs, pureT_ok (O := opts gl) (T := [(1, 2, .c (I r)), (1, 3, .b false), (23, 2, .c (I p)), (23, 7, .c (.str [53]))]) (F := [.call 67 [I b] (.str [53]), .call 23 [I a, I 12] (I p), .beq r 16 false, .call 23 [I c, I 17] (I r)]) rfl rfl (by kernel_rfl) ⟨hi, hp, hb, hr, trivial⟩⟩
  · exact ⟨.link (wrapA .i64 (100 + p)) [49], hs, pureT_ok (O := opts gl) (T := [(1, 2, .c (I r)), (1, 3, .b false), (23, 2, .c (I p)), (23, 7, .c (.str [49]))]) (F := [.call 67 [I b] (.str [49]), .call 23 [I a, I 12] (I p), .beq r 16 false, .call 23 [I c, I 17] (I r)]) rfl rfl (by kernel_rfl) ⟨hi, hp, hb, hr, trivial⟩⟩
  · exact ⟨.link (wrapA .i64 (100 + p)) [50], hs, pureT_ok (O := opts gl) (T := [(1, 2, .c (I r)), (1, 3, .b false), (23, 2, .c (I p)), (23, 7, .c (.str [50]))]) (F := [.call 67 [I b] (.str [50]), .call 23 [I a, I 12] (I p), .beq r 16 false, .call 23 [I c, I 17] (I r)]) rfl rfl (by kernel_rfl) ⟨hi, hp, hb, hr, trivial⟩⟩
  · exact ⟨.link (wrapA .i64 (100 + p)) [51], hs, pureT_ok (O := opts gl) (T := [(1, 2, .c (I r)), (1, 3, .b false), (23, 2, .c (I p)), (23, 7, .c (.str [51]))]) (F := [.call 67 [I b] (.str [51]), .call 23 [I a, I 12] (I p), .beq r 16 false, .call 23 [I c, I 17] (I r)]) rfl rfl (by kernel_rfl) ⟨hi, hp, hb, hr, trivial⟩⟩
  · exact ⟨.link (wrapA .i64 (100 + p)) [52], hs, pureT_ok (O := opts gl) (T := [(1, 2, .c (I r)), (1, 3, .b false), (23, 2, .c (I p)), (23, 7, .c (.str [52]))]) (F := [.call 67 [I b] (.str [52]), .call 23 [I a, I 12] (I p), .beq r 16 false, .call 23 [I c, I 17] (I r)]) rfl rfl (by kernel_rfl) ⟨hi, hp, hb, hr, trivial⟩⟩
  · exact ⟨.link (wrapA .i64 (100 + p)) [54], hs, pureT_ok (O := opts gl) (T := [(1, 2, .c (I r)), (1, 3, .b false), (23, 2, .c (I p)), (23, 7, .c (.str [54]))]) (F := [.call 67 [I b] (.str [54]), .call 23 [I a, I 12] (I p), .beq r 16 false, .call 23 [I c, I 17] (I r)]) rfl rfl (by kernel_rfl) ⟨hi, hp, hb, hr, trivial⟩⟩
  · exact ⟨.link (wrapA .i64 (100 + p)) [55], hs, pureT_ok (O := opts gl) (T := [(1, 2, .c (I r)), (1, 3, .b false), (23, 2, .c (I p)), (23, 7, .c (.str [55]))]) (F := [.call 67 [I b] (.str [55]), .call 23 [I a, I 12] (I p), .beq r 16 false, .call 23 [I c, I 17] (I r)]) rfl rfl (by kernel_rfl) ⟨hi, hp, hb, hr, trivial⟩⟩
  · exact ⟨.link (wrapA .i64 (100 + p)) [57, 57], hs, pureT_ok (O := opts gl) (T := [(1, 2, .c (I r)), (1, 3, .b false), (23, 2, .c (I p)), (23, 7, .c (.str [57, 57]))]) (F := [.call 67 [I b] (.str [57, 57]), .call 23 [I a, I 12] (I p), .beq r 16 false, .call 23 [I c, I 17] (I r)]) rfl rfl (by kernel_rfl) ⟨hi, hp, hb, hr, trivial⟩⟩
  · exact ⟨.link (wrapA .i64 (100 + p)) [120], hs, pureT_ok (O := opts gl) (T := [(1, 2, .c (I r)), (1, 3, .b false), (23, 2, .c (I p)), (23, 7, .c (.str [120]))]) (F := [.call 67 [I b] (.str [120]), .call 23 [I a, I 12] (I p), .beq r 16 false, .call 23 [I c, I 17] (I r)]) rfl rfl (by kernel_rfl) ⟨hi, hp, hb, hr, trivial⟩⟩

theorem value_19 (k a b c : Int) : Made (n := n) [85, 115, 97, 103, 101, 32, 76, 105, 109, 105, 116, 115] k a b c := by
  obtain ⟨r, hr0, hr1, hr⟩ := pick_says (G := gl) (n := n + 2) c 17 (by decide) (by decide)
  by_cases h16 : r = 16
  · have hb : beqInt r 16 = true := by rw [beqInt_eq]; simpa using h16
    exact ⟨.num 2 (wrapA .i64 (wrapA .i32 a)), trivial, pureT_ok (O := opts gl) (T := [(1, 2, .c (I r)), (1, 3, .b true)]) (F := [.beq r 16 true, .call 23 [I c, I 17] (I r)]) rfl rfl (by kernel_rfl) ⟨hb, hr, trivial⟩⟩
  have hb : beqInt r 16 = false := by rw [beqInt_eq]; simpa using h16
  obtain ⟨p, p0, p1, hp⟩ := pick_says (G := gl) (n := n + 2) a 60 (by decide) (by decide)
  obtain ⟨q, q0, q1, hq⟩ := pick_says (G := gl) (n := n + 2) b 70 (by decide) (by decide)
  obtain ⟨u, u0, u1, hu⟩ := pick_says (G := gl) (n := n + 2) b 3 (by decide) (by decide)
  by_cases hm : b.tmod 4 = 0
  · have h4 : beqInt (b.tmod 4) 0 = true := by rw [beqInt_eq]; simpa using hm
    exact ⟨.limits p q (wrapA .i64 (1 + u)), trivial, pureT_ok (O := opts gl) (T := [(1, 2, .c (I r)), (1, 3, .b false), (25, 2, .c (I p)), (27, 3, .b true), (28, 2, .c (I q)), (29, 6, .c (I u))]) (F := [.call 23 [I b, I 3] (I u), .call 23 [I b, I 70] (I q), .beq (b.tmod 4) 0 true, .call 23 [I a, I 60] (I p), .beq r 16 false, .call 23 [I c, I 17] (I r)]) rfl rfl (by kernel_rfl) ⟨hu, hq, h4, hp, hb, hr, trivial⟩⟩
  · have h4 : beqInt (b.tmod 4) 0 = false := by rw [beqInt_eq]; simpa using hm
    exact ⟨.limits p p (wrapA .i64 (1 + u)), trivial, pureT_ok (O := opts gl) (T := [(1, 2, .c (I r)), (1, 3, .b false), (25, 2, .c (I p)), (27, 3, .b false), (29, 6, .c (I u))]) (F := [.call 23 [I b, I 3] (I u), .beq (b.tmod 4) 0 false, .call 23 [I a, I 60] (I p), .beq r 16 false, .call 23 [I c, I 17] (I r)]) rfl rfl (by kernel_rfl) ⟨hu, h4, hp, hb, hr, trivial⟩⟩

theorem value_20 (k a b c : Int) : Made (n := n) [120, 45, 97] k a b c := by
  obtain ⟨r, hr0, hr1, hr⟩ := pick_says (G := gl) (n := n + 2) c 17 (by decide) (by decide)
  by_cases h16 : r = 16
  · have hb : beqInt r 16 = true := by rw [beqInt_eq]; simpa using h16
    exact ⟨.num 2 (wrapA .i64 (wrapA .i32 a)), trivial, pureT_ok (O := opts gl) (T := [(1, 2, .c (I r)), (1, 3, .b true)]) (F := [.beq r 16 true, .call 23 [I c, I 17] (I r)]) rfl rfl (by kernel_rfl) ⟨hb, hr, trivial⟩⟩
  have hb : beqInt r 16 = false := by rw [beqInt_eq]; simpa using h16
  obtain ⟨p, p0, p1, hp⟩ := pick_says (G := gl) (n := n + 2) a 7 (by decide) (by decide)
  have hc : p = 0 ∨ p = 1 ∨ p = 2 ∨ p = 3 ∨ p = 4 ∨ p = 5 ∨ p = 6 := by omega
  rcases hc with rfl | rfl | rfl | rfl | rfl | rfl | rfl
  · exact ⟨.text [111, 110, 101], by simp [Vl.may, texts], pureT_ok (O := opts gl) (T := [(1, 2, .c (I r)), (1, 3, .b false), (10, 3, .c (I 0))]) (F := [.call 23 [I a, I 7] (I 0), .beq r 16 false, .call 23 [I c, I 17] (I r)]) rfl rfl (by kernel_rfl) ⟨hp, hb, hr, trivial⟩⟩
  · exact ⟨.text [116, 119, 111], by simp [Vl.may, texts], pureT_ok (O := opts gl) (T := [(1, 2, .c (I r)), (1, 3, .b false), (10, 3, .c (I 1))]) (F := [.call 23 [I a, I 7] (I 1), .beq r 16 false, .call 23 [I c, I 17] (I r)]) rfl rfl (by kernel_rfl) ⟨hp, hb, hr, trivial⟩⟩
  · exact ⟨.text [116, 104, 114, 101, 101], by simp [Vl.may, texts], pureT_ok (O := opts gl) (T := [(1, 2, .c (I r)), (1, 3, .b false), (10, 3, .c (I 2))]) (F := [.call 23 [I a, I 7] (I 2), .beq r 16 false, .call 23 [I c, I 17] (I r)]) rfl rfl (by kernel_rfl) ⟨hp, hb, hr, trivial⟩⟩
  · exact ⟨.text [102, 111, 117, 114], by simp [Vl.may, texts], pureT_ok (O := opts gl) (T := [(1, 2, .c (I r)), (1, 3, .b false), (10, 3, .c (I 3))]) (F := [.call 23 [I a, I 7] (I 3), .beq r 16 false, .call 23 [I c, I 17] (I r)]) rfl rfl (by kernel_rfl) ⟨hp, hb, hr, trivial⟩⟩
  · exact ⟨.text [], by simp [Vl.may, texts], pureT_ok (O := opts gl) (T := [(1, 2, .c (I r)), (1, 3, .b false), (10, 3, .c (I 4))]) (F := [.call 23 [I a, I 7] (I 4), .beq r 16 false, .call 23 [I c, I 17] (I r)]) rfl rfl (by kernel_rfl) ⟨hp, hb, hr, trivial⟩⟩
  · exact ⟨.text [53], by simp [Vl.may, texts], pureT_ok (O := opts gl) (T := [(1, 2, .c (I r)), (1, 3, .b false), (10, 3, .c (I 5))]) (F := [.call 23 [I a, I 7] (I 5), .beq r 16 false, .call 23 [I c, I 17] (I r)]) rfl rfl (by kernel_rfl) ⟨hp, hb, hr, trivial⟩⟩
  · exact ⟨.text [49], by simp [Vl.may, texts], pureT_ok (O := opts gl) (T := [(1, 2, .c (I r)), (1, 3, .b false), (10, 3, .c (I 6))]) (F := [.call 23 [I a, I 7] (I 6), .beq r 16 false, .call 23 [I c, I 17] (I r)]) rfl rfl (by kernel_rfl) ⟨hp, hb, hr, trivial⟩⟩

theorem value_21 (k a b c : Int) : Made (n := n) [120, 45, 98] k a b c := by
  obtain ⟨r, hr0, hr1, hr⟩ := pick_says (G := gl) (n := n + 2) c 17 (by decide) (by decide)
  by_cases h16 : r = 16
  · have hb : beqInt r 16 = true := by rw [beqInt_eq]; simpa using h16
    exact ⟨.num 2 (wrapA .i64 (wrapA .i32 a)), trivial, pureT_ok (O := opts gl) (T := [(1, 2, .c (I r)), (1, 3, .b true)]) (F := [.beq r 16 true, .call 23 [I c, I 17] (I r)]) rfl rfl (by kernel_rfl) ⟨hb, hr, trivial⟩⟩
  have hb : beqInt r 16 = false := by rw [beqInt_eq]; simpa using h16
  obtain ⟨p, p0, p1, hp⟩ := pick_says (G := gl) (n := n + 2) a 7 (by decide) (by decide)
  have hc : p = 0 ∨ p = 1 ∨ p = 2 ∨ p = 3 ∨ p = 4 ∨ p = 5 ∨ p = 6 := by omega
  rcases hc with rfl | rfl | rfl | rfl | rfl | rfl | rfl
  · exact ⟨.text [111, 110, 101], by simp [Vl.may, texts], pureT_ok (O := opts gl) (T := [(1, 2, .c (I r)), (1, 3, .b false), (10, 3, .c (I 0))]) (F := [.call 23 [I a, I 7] (I 0), .beq r 16 false, .call 23 [I c, I 17] (I r)]) rfl rfl (by kernel_rfl) ⟨hp, hb, hr, trivial⟩⟩
  · exact ⟨.text [116, 119, 111], by simp [Vl.may, texts], pureT_ok (O := opts gl) (T := [(1, 2, .c (I r)), (1, 3, .b false), (10, 3, .c (I 1))]) (F := [.call 23 [I a, I 7] (I 1), .beq r 16 false, .call 23 [I c, I 17] (I r)]) rfl rfl (by kernel_rfl) ⟨hp, hb, hr, trivial⟩⟩
  · exact ⟨.text [116, 104, 114, 101, 101], by simp [Vl.may, texts], pureT_ok (O := opts gl) (T := [(1, 2, .c (I r)), (1, 3, .b false), (10, 3, .c (I 2))]) (F := [.call 23 [I a, I 7] (I 2), .beq r 16 false, .call 23 [I c, I 17] (I r)]) rfl rfl (by kernel_rfl) ⟨hp, hb, hr, trivial⟩⟩
  · exact ⟨.text [102, 111, 117, 114], by simp [Vl.may, texts], pureT_ok (O := opts gl) (T := [(1, 2, .c (I r)), (1, 3, .b false), (10, 3, .c (I 3))]) (F := [.call 23 [I a, I 7] (I 3), .beq r 16 false, .call 23 [I c, I 17] (I r)]) rfl rfl (by kernel_rfl) ⟨hp, hb, hr, trivial⟩⟩
  · exact ⟨.text [], by simp [Vl.may, texts], pureT_ok (O := opts gl) (T := [(1, 2, .c (I r)), (1, 3, .b false), (10, 3, .c (I 4))]) (F := [.call 23 [I a, I 7] (I 4), .beq r 16 false, .call 23 [I c, I 17] (I r)]) rfl rfl (by kernel_rfl) ⟨hp, hb, hr, trivial⟩⟩
  · exact ⟨.text [53], by simp [Vl.may, texts], pureT_ok (O := opts gl) (T := [(1, 2, .c (I r)), (1, 3, .b false), (10, 3, .c (I 5))]) (F := [.call 23 [I a, I 7] (I 5), .beq r 16 false, .call 23 [I c, I 17] (I r)]) rfl rfl (by kernel_rfl) ⟨hp, hb, hr, trivial⟩⟩
  · exact ⟨.text [49], by simp [Vl.may, texts], pureT_ok (O := opts gl) (T := [(1, 2, .c (I r)), (1, 3, .b false), (10, 3, .c (I 6))]) (F := [.call 23 [I a, I 7] (I 6), .beq r 16 false, .call 23 [I c, I 17] (I r)]) rfl rfl (by kernel_rfl) ⟨hp, hb, hr, trivial⟩⟩

theorem value_22 (k a b c : Int) : Made (n := n) [120, 45] k a b c := by
  obtain ⟨r, hr0, hr1, hr⟩ := pick_says (G := gl) (n := n + 2) c 17 (by decide) (by decide)
  by_cases h16 : r = 16
  · have hb : beqInt r 16 = true := by rw [beqInt_eq]; simpa using h16
    exact ⟨.num 2 (wrapA .i64 (wrapA .i32 a)), trivial, pureT_ok (O := opts gl) (T := [(1, 2, .c (I r)), (1, 3, .b true)]) (F := [.beq r 16 true, .call 23 [I c, I 17] (I r)]) rfl rfl (by kernel_rfl) ⟨hb, hr, trivial⟩⟩
  have hb : beqInt r 16 = false := by rw [beqInt_eq]; simpa using h16
  obtain ⟨p, p0, p1, hp⟩ := pick_says (G := gl) (n := n + 2) a 7 (by decide) (by decide)
  have hc : p = 0 ∨ p = 1 ∨ p = 2 ∨ p = 3 ∨ p = 4 ∨ p = 5 ∨ p = 6 := by omega
  rcases hc with rfl | rfl | rfl | rfl | rfl | rfl | rfl
  · exact ⟨.text [111, 110, 101], by simp [Vl.may, texts], pureT_ok (O := opts gl) (T := [(1, 2, .c (I r)), (1, 3, .b false), (10, 3, .c (I 0))]) (F := [.call 23 [I a, I 7] (I 0), .beq r 16 false, .call 23 [I c, I 17] (I r)]) rfl rfl (by kernel_rfl) ⟨hp, hb, hr, trivial⟩⟩
  · exact ⟨.text [116, 119, 111], by simp [Vl.may, texts], pureT_ok (O := opts gl) (T := [(1, 2, .c (I r)), (1, 3, .b false), (10, 3, .c (I 1))]) (F := [.call 23 [I a, I 7] (I 1), .beq r 16 false, .call 23 [I c, I 17] (I r)]) rfl rfl (by kernel_rfl) ⟨hp, hb, hr, trivial⟩⟩
  · exact ⟨.text [116, 104, 114, 101, 101], by simp [Vl.may, texts], pureT_ok (O := opts gl) (T := [(1, 2, .c (I r)), (1, 3, .b false), (10, 3, .c (I 2))]) (F := [.call 23 [I a, I 7] (I 2), .beq r 16 false, .call 23 [I c, I 17] (I r)]) rfl rfl (by kernel_rfl) ⟨hp, hb, hr, trivial⟩⟩
  · exact ⟨.text [102, 111, 117, 114], by simp [Vl.may, texts], pureT_ok (O := opts gl) (T := [(1, 2, .c (I r)), (1, 3, .b false), (10, 3, .c (I 3))]) (F := [.call 23 [I a, I 7] (I 3), .beq r 16 false, .call 23 [I c, I 17] (I r)]) rfl rfl (by kernel_rfl) ⟨hp, hb, hr, trivial⟩⟩
  · exact ⟨.text [], by simp [Vl.may, texts], pureT_ok (O := opts gl) (T := [(1, 2, .c (I r)), (1, 3, .b false), (10, 3, .c (I 4))]) (F := [.call 23 [I a, I 7] (I 4), .beq r 16 false, .call 23 [I c, I 17] (I r)]) rfl rfl (by kernel_rfl) ⟨hp, hb, hr, trivial⟩⟩
  · exact ⟨.text [53], by simp [Vl.may, texts], pureT_ok (O := opts gl) (T := [(1, 2, .c (I r)), (1, 3, .b false), (10, 3, .c (I 5))]) (F := [.call 23 [I a, I 7] (I 5), .beq r 16 false, .call 23 [I c, I 17] (I r)]) rfl rfl (by kernel_rfl) ⟨hp, hb, hr, trivial⟩⟩
  · exact ⟨.text [49], by simp [Vl.may, texts], pureT_ok (O := opts gl) (T := [(1, 2, .c (I r)), (1, 3, .b false), (10, 3, .c (I 6))]) (F := [.call 23 [I a, I 7] (I 6), .beq r 16 false, .call 23 [I c, I 17] (I r)]) rfl rfl (by kernel_rfl) ⟨hp, hb, hr, trivial⟩⟩

theorem value_23 (k a b c : Int) : Made (n := n) [121] k a b c := by
  obtain ⟨r, hr0, hr1, hr⟩ := pick_says (G := gl) (n := n + 2) c 17 (by decide) (by decide)
  by_cases h16 : r = 16
  · have hb : beqInt r 16 = true := by rw [beqInt_eq]; simpa using h16
    exact ⟨.num 2 (wrapA .i64 (wrapA .i32 a)), trivial, pureT_ok (O := opts gl) (T := [(1, 2, .c (I r)), (1, 3, .b true)]) (F := [.beq r 16 true, .call 23 [I c, I 17] (I r)]) rfl rfl (by kernel_rfl) ⟨hb, hr, trivial⟩⟩
  have hb : beqInt r 16 = false := by rw [beqInt_eq]; simpa using h16
  obtain ⟨p, p0, p1, hp⟩ := pick_says (G := gl) (n := n + 2) a 7 (by decide) (by decide)
  have hc : p = 0 ∨ p = 1 ∨ p = 2 ∨ p = 3 ∨ p = 4 ∨ p = 5 ∨ p = 6 := by omega
  rcases hc with rfl | rfl | rfl | rfl | rfl | rfl | rfl
  · exact ⟨.text [111, 110, 101], by simp [Vl.may, texts], pureT_ok (O := opts gl) (T := [(1, 2, .c (I r)), (1, 3, .b false), (10, 3, .c (I 0))]) (F := [.call 23 [I a, I 7] (I 0), .beq r 16 false, .call 23 [I c, I 17] (I r)]) rfl rfl (by kernel_rfl) ⟨hp, hb, hr, trivial⟩⟩
  · exact ⟨.text [116, 119, 111], by simp [Vl.may, texts], pureT_ok (O := opts gl) (T := [(1, 2, .c (I r)), (1, 3, .b false), (10, 3, .c (I 1))]) (F := [.call 23 [I a, I 7] (I 1), .beq r 16 false, .call 23 [I c, I 17] (I r)]) rfl rfl (by kernel_rfl) ⟨hp, hb, hr, trivial⟩⟩
  · exact ⟨.text [116, 104, 114, 101, 101], by simp [Vl.may, texts], pureT_ok (O := opts gl) (T := [(1, 2, .c (I r)), (1, 3, .b false), (10, 3, .c (I 2))]) (F := [.call 23 [I a, I 7] (I 2), .beq r 16 false, .call 23 [I c, I 17] (I r)]) rfl rfl (by kernel_rfl) ⟨hp, hb, hr, trivial⟩⟩
  · exact ⟨.text [102, 111, 117, 114], by simp [Vl.may, texts], pureT_ok (O := opts gl) (T := [(1, 2, .c (I r)), (1, 3, .b false), (10, 3, .c (I 3))]) (F := [.call 23 [I a, I 7] (I 3), .beq r 16 false, .call 23 [I c, I 17] (I r)]) rfl rfl (by kernel_rfl) ⟨hp, hb, hr, trivial⟩⟩
  · exact ⟨.text [], by simp [Vl.may, texts], pureT_ok (O := opts gl) (T := [(1, 2, .c (I r)), (1, 3, .b false), (10, 3, .c (I 4))]) (F := [.call 23 [I a, I 7] (I 4), .beq r 16 false, .call 23 [I c, I 17] (I r)]) rfl rfl (by kernel_rfl) ⟨hp, hb, hr, trivial⟩⟩
  · exact ⟨.text [53], by simp [Vl.may, texts], pureT_ok (O := opts gl) (T := [(1, 2, .c (I r)), (1, 3, .b false), (10, 3, .c (I 5))]) (F := [.call 23 [I a, I 7] (I 5), .beq r 16 false, .call 23 [I c, I 17] (I r)]) rfl rfl (by kernel_rfl) ⟨hp, hb, hr, trivial⟩⟩
  · exact ⟨.text [49], by simp [Vl.may, texts], pureT_ok (O := opts gl) (T := [(1, 2, .c (I r)), (1, 3, .b false), (10, 3, .c (I 6))]) (F := [.call 23 [I a, I 7] (I 6), .beq r 16 false, .call 23 [I c, I 17] (I r)]) rfl rfl (by kernel_rfl) ⟨hp, hb, hr, trivial⟩⟩

theorem value_says {s : List UInt8} (hs : s ∈ nameL) (k a b c : Int) : Made (n := n) s k a b c := by
  simp only [nameL, List.mem_cons, List.not_mem_nil, or_false] at hs
  rcases hs with rfl | rfl | rfl | rfl | rfl | rfl | rfl | rfl | rfl | rfl | rfl | rfl | rfl | rfl | rfl | rfl | rfl | rfl | rfl | rfl | rfl | rfl | rfl | rfl
  · exact value_0 k a b c
  · exact value_1 k a b c
  · exact value_2 k a b c
  · exact value_3 k a b c
  · exact value_4 k a b c
  · exact value_5 k a b c
  · exact value_6 k a b c
  · exact value_7 k a b c
  · exact value_8 k a b c
  · exact value_9 k a b c
  · exact value_10 k a b c
  · exact value_11 k a b c
  · exact value_12 k a b c
  · exact value_13 k a b c
  · exact value_14 k a b c
  · exact value_15 k a b c
  · exact value_16 k a b c
  · exact value_17 k a b c
  · exact value_18 k a b c
  · exact value_19 k a b c
  · exact value_20 k a b c
  · exact value_21 k a b c
  · exact value_22 k a b c
  · exact value_23 k a b c

end Go.Proofs.YtjhggnebkfpgcaaGreatDoor
