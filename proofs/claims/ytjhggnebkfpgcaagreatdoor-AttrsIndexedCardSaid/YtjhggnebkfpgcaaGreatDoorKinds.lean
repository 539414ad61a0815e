/- The table of attributes. -/
import Derived.Test.YtjhggnebkfpgcaaGreatDoorHand
import Derived.KernelRfl
namespace Go.Proofs.YtjhggnebkfpgcaaGreatDoor
open Go Go.RowKit
open Go.Proofs.Abs
inductive Kd where
 | uid | nam | typ | alg | len | mask | sta
 | dat (k : Nat)
 | why | lnk | lim
 | cus (s : List UInt8)
def dateN : Nat → List UInt8
 | 0 => [73, 110, 105, 116, 105, 97, 108, 32, 68, 97, 116, 101]
 | 1 => [65, 99, 116, 105, 118, 97, 116, 105, 111, 110, 32, 68, 97, 116, 101]
 | 2 => [80, 114, 111, 99, 101, 115, 115, 32, 83, 116, 97, 114, 116, 32, 68, 97, 116, 101]
 | 3 => [80, 114, 111, 116, 101, 99, 116, 32, 83, 116, 111, 112, 32, 68, 97, 116, 101]
 | 4 => [68, 101, 97, 99, 116, 105, 118, 97, 116, 105, 111, 110, 32, 68, 97, 116, 101]
 | 5 => [68, 101, 115, 116, 114, 111, 121, 32, 68, 97, 116, 101]
 | 6 => [67, 111, 109, 112, 114, 111, 109, 105, 115, 101, 32, 79, 99, 99, 117, 114, 114, 101, 110, 99, 101, 32, 68, 97, 116, 101]
 | 7 => [67, 111, 109, 112, 114, 111, 109, 105, 115, 101, 32, 68, 97, 116, 101]
 | 8 => [65, 114, 99, 104, 105, 118, 101, 32, 68, 97, 116, 101]
 | _ => [76, 97, 115, 116, 32, 67, 104, 97, 110, 103, 101, 32, 68, 97, 116, 101]
def nameK : Kd → List UInt8
 | .uid => [85, 110, 105, 113, 117, 101, 32, 73, 100, 101, 110, 116, 105, 102, 105, 101, 114]
 | .nam => [78, 97, 109, 101]
 | .typ => [79, 98, 106, 101, 99, 116, 32, 84, 121, 112, 101]
 | .alg => [67, 114, 121, 112, 116, 111, 103, 114, 97, 112, 104, 105, 99, 32, 65, 108, 103, 111, 114, 105, 116, 104, 109]
 | .len => [67, 114, 121, 112, 116, 111, 103, 114, 97, 112, 104, 105, 99, 32, 76, 101, 110, 103, 116, 104]
 | .mask => [67, 114, 121, 112, 116, 111, 103, 114, 97, 112, 104, 105, 99, 32, 85, 115, 97, 103, 101, 32, 77, 97, 115, 107]
 | .sta => [83, 116, 97, 116, 101]
 | .why => [82, 101, 118, 111, 99, 97, 116, 105, 111, 110, 32, 82, 101, 97, 115, 111, 110]
 | .lnk => [76, 105, 110, 107]
 | .lim => [85, 115, 97, 103, 101, 32, 76, 105, 109, 105, 116, 115]
 | .dat k => dateN k
 | .cus s => s
def manyK : Kd → Bool
 | .nam | .lnk | .cus _ => true
 | _ => false
def setD (k : Nat) : Bool := Nat.ble 1 k && Nat.ble k 4
def setK : Kd → Bool
 | .nam | .lnk | .cus _ | .alg | .len | .mask | .lim => true
 | .dat k => setD k
 | _ => false
def typeK : Kd → Int
 | .uid | .nam | .cus _ => 7
 | .typ | .alg | .sta => 5
 | .len | .mask => 2
 | .dat _ => 9
 | .why | .lnk | .lim => 1
def fnA (f : Nat) : AV := .func (.func f) [] []
def fnC (f : Nat) (c : List AV) : AV := .func (.func f) [] c
def alw : AV := fnA 158
def youngA : AV := fnA 125
def usedA : AV := fnA 137
def addD : Nat → AV
 | 1 | 2 => youngA
 | 3 | 4 => usedA
 | _ => .nilFunc
def addK : Kd → AV
 | .nam | .lnk | .cus _ | .lim => alw
 | .dat k => addD k
 | _ => .nilFunc
def modK : Kd → AV
 | .nam | .lnk | .cus _ => alw
 | .mask => youngA
 | .lim => fnA 189
 | .dat k => addD k
 | _ => .nilFunc
def remD : Nat → AV
 | 2 => youngA
 | 3 => usedA
 | _ => .nilFunc
def remK : Kd → AV
 | .nam | .lnk | .cus _ => alw
 | .lim => fnA 189
 | .dat k => remD k
 | _ => .nilFunc
def atF : Kd → AV
 | .alg => fnA 132
 | .len => fnA 133
 | _ => fnA 124
def mostK : Kd → Int
 | .alg => 100
 | .len => 100000
 | _ => 1048575
def leastK : Kd → Int
 | .mask => 0
 | _ => 1
def plG (k : Kd) : AV := fnC 161 [.fptr [atF k] 0, .fptr [I (leastK k)] 0, .fptr [I (typeK k)] 0]
def plR (k : Kd) : AV := fnC 162 [.fptr [I (typeK k)] 0, .fptr [I (leastK k)] 0, .fptr [I (mostK k)] 0]
def plP (k : Kd) : AV := fnC 164 [.fptr [atF k] 0]
def nI (k : Nat) : AV := .int .i64 (.ofNat k)
def getF : Kd → AV
 | .uid => fnA 127
 | .nam => fnA 166
 | .typ => fnA 130
 | .sta => fnA 134
 | .dat k => fnC 172 [.fptr [nI k] 0]
 | .why => fnA 138
 | .lnk => fnA 178
 | .lim => fnA 184
 | .cus s => fnC 150 [.fptr [.str s] 0]
 | k => plG k
def rightF : Kd → AV
 | .nam => fnA 167
 | .dat _ => fnA 173
 | .lnk => fnA 179
 | .lim => fnA 185
 | .cus _ => fnA 152
 | .uid | .typ | .sta | .why => .nilFunc
 | k => plR k
def putF : Kd → AV
 | .nam => fnA 168
 | .dat k => fnC 174 [.fptr [nI k] 0]
 | .lnk => fnA 180
 | .lim => fnA 187
 | .cus s => fnC 154 [.fptr [.str s] 0]
 | .uid | .typ | .sta | .why => .nilFunc
 | k => plP k
def dropF : Kd → AV
 | .nam => fnA 170
 | .dat k => fnC 175 [.fptr [nI k] 0]
 | .lnk => fnA 182
 | .lim => fnA 188
 | .cus s => fnC 156 [.fptr [.str s] 0]
 | _ => .nilFunc
def roomF : Kd → AV
 | .nam => fnA 165
 | .lnk => fnA 177
 | .cus _ => fnA 149
 | _ => .nilFunc
def rowC (k : Kd) : List AV := [.str (nameK k), I (typeK k), .bool (manyK k), .bool (setK k), addK k, modK k, remK k, getF k, rightF k, putF k, dropF k, roomF k]
def rowA (k : Kd) : AV := .agg (rowC k)
def rowZ : AV := .agg [.str [], I 0, .bool false, .bool false, .nilFunc, .nilFunc, .nilFunc, .nilFunc, .nilFunc, .nilFunc, .nilFunc, .nilFunc]
def kinds : List Kd := [.uid, .nam, .typ, .alg, .len, .mask, .sta, .dat 0, .dat 1, .dat 2, .dat 3, .dat 4, .dat 5, .dat 6, .dat 7, .dat 8, .dat 9, .why, .lnk, .lim]
theorem table_fn (Q : AV → Prop) : fnK Tryz.prog opts0 40 aid0 91 [] [] 0 (fun v _ _ => Q v) =
  (Q (AV.fsl true [AV.agg [AV.str [85, 110, 105, 113, 117, 101, 32, 73, 100, 101, 110, 116, 105, 102, 105, 101, 114], I 7, AV.bool false, AV.bool false, AV.nilFunc, AV.nilFunc, AV.nilFunc, AV.func (Fn.func 127) [] [], AV.nilFunc, AV.nilFunc, AV.nilFunc, AV.nilFunc], AV.agg [AV.str [78, 97, 109, 101], I 7, AV.bool true, AV.bool true, AV.func (Fn.func 158) [] [], AV.func (Fn.func 158) [] [], AV.func (Fn.func 158) [] [], AV.func (Fn.func 166) [] [], AV.func (Fn.func 167) [] [], AV.func (Fn.func 168) [] [], AV.func (Fn.func 170) [] [], AV.func (Fn.func 165) [] []], AV.agg [AV.str [79, 98, 106, 101, 99, 116, 32, 84, 121, 112, 101], I 5, AV.bool false, AV.bool false, AV.nilFunc, AV.nilFunc, AV.nilFunc, AV.func (Fn.func 130) [] [], AV.nilFunc, AV.nilFunc, AV.nilFunc, AV.nilFunc], AV.agg [AV.str [67, 114, 121, 112, 116, 111, 103, 114, 97, 112, 104, 105, 99, 32, 65, 108, 103, 111, 114, 105, 116, 104, 109], I 5, AV.bool false, AV.bool true, AV.nilFunc, AV.nilFunc, AV.nilFunc, AV.func (Fn.func 161) [] [AV.fptr [AV.func (Fn.func 132) [] []] 0, AV.fptr [I 1] 0, AV.fptr [I 5] 0], AV.func (Fn.func 162) [] [AV.fptr [I 5] 0, AV.fptr [I 1] 0, AV.fptr [I 100] 0], AV.func (Fn.func 164) [] [AV.fptr [AV.func (Fn.func 132) [] []] 0], AV.nilFunc, AV.nilFunc], AV.agg [AV.str [67, 114, 121, 112, 116, 111, 103, 114, 97, 112, 104, 105, 99, 32, 76, 101, 110, 103, 116, 104], I 2, AV.bool false, AV.bool true, AV.nilFunc, AV.nilFunc, AV.nilFunc, AV.func (Fn.func 161) [] [AV.fptr [AV.func (Fn.func 133) [] []] 0, AV.fptr [I 1] 0, AV.fptr [I 2] 0], AV.func (Fn.func 162) [] [AV.fptr [I 2] 0, AV.fptr [I 1] 0, AV.fptr [I 100000] 0], AV.func (Fn.func 164) [] [AV.fptr [AV.func (Fn.func 133) [] []] 0], AV.nilFunc, AV.nilFunc], AV.agg [AV.str [67, 114, 121, 112, 116, 111, 103, 114, 97, 112, 104, 105, 99, 32, 85, 115, 97, 103, 101, 32, 77, 97, 115, 107], I 2, AV.bool false, AV.bool true, AV.nilFunc, AV.func (Fn.func 125) [] [], AV.nilFunc, AV.func (Fn.func 161) [] [AV.fptr [AV.func (Fn.func 124) [] []] 0, AV.fptr [I 0] 0, AV.fptr [I 2] 0], AV.func (Fn.func 162) [] [AV.fptr [I 2] 0, AV.fptr [I 0] 0, AV.fptr [I 1048575] 0], AV.func (Fn.func 164) [] [AV.fptr [AV.func (Fn.func 124) [] []] 0], AV.nilFunc, AV.nilFunc], AV.agg [AV.str [83, 116, 97, 116, 101], I 5, AV.bool false, AV.bool false, AV.nilFunc, AV.nilFunc, AV.nilFunc, AV.func (Fn.func 134) [] [], AV.nilFunc, AV.nilFunc, AV.nilFunc, AV.nilFunc], AV.agg [AV.str [73, 110, 105, 116, 105, 97, 108, 32, 68, 97, 116, 101], I 9, AV.bool false, AV.bool false, AV.nilFunc, AV.nilFunc, AV.nilFunc, AV.func (Fn.func 172) [] [AV.fptr [I 0] 0], AV.func (Fn.func 173) [] [], AV.func (Fn.func 174) [] [AV.fptr [I 0] 0], AV.func (Fn.func 175) [] [AV.fptr [I 0] 0], AV.nilFunc], AV.agg [AV.str [65, 99, 116, 105, 118, 97, 116, 105, 111, 110, 32, 68, 97, 116, 101], I 9, AV.bool false, AV.bool true, AV.func (Fn.func 125) [] [], AV.func (Fn.func 125) [] [], AV.nilFunc, AV.func (Fn.func 172) [] [AV.fptr [I 1] 0], AV.func (Fn.func 173) [] [], AV.func (Fn.func 174) [] [AV.fptr [I 1] 0], AV.func (Fn.func 175) [] [AV.fptr [I 1] 0], AV.nilFunc], AV.agg [AV.str [80, 114, 111, 99, 101, 115, 115, 32, 83, 116, 97, 114, 116, 32, 68, 97, 116, 101], I 9, AV.bool false, AV.bool true, AV.func (Fn.func 125) [] [], AV.func (Fn.func 125) [] [], AV.func (Fn.func 125) [] [], AV.func (Fn.func 172) [] [AV.fptr [I 2] 0], AV.func (Fn.func 173) [] [], AV.func (Fn.func 174) [] [AV.fptr [I 2] 0], AV.func (Fn.func 175) [] [AV.fptr [I 2] 0], AV.nilFunc], AV.agg [AV.str [80, 114, 111, 116, 101, 99, 116, 32, 83, 116, 111, 112, 32, 68, 97, 116, 101], I 9, AV.bool false, AV.bool true, AV.func (Fn.func 137) [] [], AV.func (Fn.func 137) [] [], AV.func (Fn.func 137) [] [], AV.func (Fn.func 172) [] [AV.fptr [I 3] 0], AV.func (Fn.func 173) [] [], AV.func (Fn.func 174) [] [AV.fptr [I 3] 0], AV.func (Fn.func 175) [] [AV.fptr [I 3] 0], AV.nilFunc], AV.agg [AV.str [68, 101, 97, 99, 116, 105, 118, 97, 116, 105, 111, 110, 32, 68, 97, 116, 101], I 9, AV.bool false, AV.bool true, AV.func (Fn.func 137) [] [], AV.func (Fn.func 137) [] [], AV.nilFunc, AV.func (Fn.func 172) [] [AV.fptr [I 4] 0], AV.func (Fn.func 173) [] [], AV.func (Fn.func 174) [] [AV.fptr [I 4] 0], AV.func (Fn.func 175) [] [AV.fptr [I 4] 0], AV.nilFunc], AV.agg [AV.str [68, 101, 115, 116, 114, 111, 121, 32, 68, 97, 116, 101], I 9, AV.bool false, AV.bool false, AV.nilFunc, AV.nilFunc, AV.nilFunc, AV.func (Fn.func 172) [] [AV.fptr [I 5] 0], AV.func (Fn.func 173) [] [], AV.func (Fn.func 174) [] [AV.fptr [I 5] 0], AV.func (Fn.func 175) [] [AV.fptr [I 5] 0], AV.nilFunc], AV.agg [AV.str [67, 111, 109, 112, 114, 111, 109, 105, 115, 101, 32, 79, 99, 99, 117, 114, 114, 101, 110, 99, 101, 32, 68, 97, 116, 101], I 9, AV.bool false, AV.bool false, AV.nilFunc, AV.nilFunc, AV.nilFunc, AV.func (Fn.func 172) [] [AV.fptr [I 6] 0], AV.func (Fn.func 173) [] [], AV.func (Fn.func 174) [] [AV.fptr [I 6] 0], AV.func (Fn.func 175) [] [AV.fptr [I 6] 0], AV.nilFunc], AV.agg [AV.str [67, 111, 109, 112, 114, 111, 109, 105, 115, 101, 32, 68, 97, 116, 101], I 9, AV.bool false, AV.bool false, AV.nilFunc, AV.nilFunc, AV.nilFunc, AV.func (Fn.func 172) [] [AV.fptr [I 7] 0], AV.func (Fn.func 173) [] [], AV.func (Fn.func 174) [] [AV.fptr [I 7] 0], AV.func (Fn.func 175) [] [AV.fptr [I 7] 0], AV.nilFunc], AV.agg [AV.str [65, 114, 99, 104, 105, 118, 101, 32, 68, 97, 116, 101], I 9, AV.bool false, AV.bool false, AV.nilFunc, AV.nilFunc, AV.nilFunc, AV.func (Fn.func 172) [] [AV.fptr [I 8] 0], AV.func (Fn.func 173) [] [], AV.func (Fn.func 174) [] [AV.fptr [I 8] 0], AV.func (Fn.func 175) [] [AV.fptr [I 8] 0], AV.nilFunc], AV.agg [AV.str [76, 97, 115, 116, 32, 67, 104, 97, 110, 103, 101, 32, 68, 97, 116, 101], I 9, AV.bool false, AV.bool false, AV.nilFunc, AV.nilFunc, AV.nilFunc, AV.func (Fn.func 172) [] [AV.fptr [I 9] 0], AV.func (Fn.func 173) [] [], AV.func (Fn.func 174) [] [AV.fptr [I 9] 0], AV.func (Fn.func 175) [] [AV.fptr [I 9] 0], AV.nilFunc], AV.agg [AV.str [82, 101, 118, 111, 99, 97, 116, 105, 111, 110, 32, 82, 101, 97, 115, 111, 110], I 1, AV.bool false, AV.bool false, AV.nilFunc, AV.nilFunc, AV.nilFunc, AV.func (Fn.func 138) [] [], AV.nilFunc, AV.nilFunc, AV.nilFunc, AV.nilFunc], AV.agg [AV.str [76, 105, 110, 107], I 1, AV.bool true, AV.bool true, AV.func (Fn.func 158) [] [], AV.func (Fn.func 158) [] [], AV.func (Fn.func 158) [] [], AV.func (Fn.func 178) [] [], AV.func (Fn.func 179) [] [], AV.func (Fn.func 180) [] [], AV.func (Fn.func 182) [] [], AV.func (Fn.func 177) [] []], AV.agg [AV.str [85, 115, 97, 103, 101, 32, 76, 105, 109, 105, 116, 115], I 1, AV.bool false, AV.bool true, AV.func (Fn.func 158) [] [], AV.func (Fn.func 189) [] [], AV.func (Fn.func 189) [] [], AV.func (Fn.func 184) [] [], AV.func (Fn.func 185) [] [], AV.func (Fn.func 187) [] [], AV.func (Fn.func 188) [] [], AV.nilFunc]])) := by kernel_rfl
theorem table_sem : SC 91 [] (.fsl true (kinds.map rowA)) := by
 refine fnK_semE (A := aid0) base0 aidOk0 (fnLs_of (LsOk.no rfl)) rfl ?_
 rw [table_fn]
 exact end_eq rfl (by kernel_rfl)
theorem custom_fn (s : List UInt8) (Q : AV → Heap → Nat → Prop) : fnK Tryz.prog opts0 40 aid0 112 [.str s] [] 0 Q =
  (Q (AV.agg [AV.str s, I 7, AV.bool true, AV.bool true, AV.func (Fn.func 158) [] [], AV.func (Fn.func 158) [] [], AV.func (Fn.func 158) [] [], AV.func (Fn.func 150) [] [AV.ptr 0 0], AV.func (Fn.func 152) [] [], AV.func (Fn.func 154) [] [AV.ptr 0 0], AV.func (Fn.func 156) [] [AV.ptr 0 0], AV.func (Fn.func 149) [] []]) [(1, some (Blk.cells [AV.str s, I 7, AV.bool true, AV.bool true, AV.func (Fn.func 158) [] [], AV.func (Fn.func 158) [] [], AV.func (Fn.func 158) [] [], AV.func (Fn.func 150) [] [AV.ptr 0 0], AV.func (Fn.func 152) [] [], AV.func (Fn.func 154) [] [AV.ptr 0 0], AV.func (Fn.func 156) [] [AV.ptr 0 0], AV.func (Fn.func 149) [] []])), (0, some (Blk.cells [AV.str s]))] 24) := by kernel_rfl
theorem custom_sem (s : List UInt8) : SC 112 [.str s] (rowA (.cus s)) := by
 refine fnK_sem (A := aid0) base0 aidOk0 (fnLs_of (LsOk.no rfl)) rfl ?_
 rw [custom_fn]
 exact ⟨⟨6, rfl⟩, rfl⟩
noncomputable def fiA (c : Bool) (s : List UInt8) : Aid := aidJ [] [] (manyS [(111, .bool c), (112, rowA (.cus s)), (91, .fsl true (kinds.map rowA))]) [] []
theorem find_fn (c : Bool) (s : List UInt8) (Q : AV → Prop) : fnK Tryz.prog opts0 40 (fiA c s) 61 [.str s] [] 0 (fun v _ _ => Q v) =
  (SC 111 [AV.str s] (AV.bool c) ∧ mtB c (SC 112 [AV.str s] (AV.agg [AV.str s, I 7, AV.bool true, AV.bool true, AV.func (Fn.func 158) [] [], AV.func (Fn.func 158) [] [], AV.func (Fn.func 158) [] [], AV.func (Fn.func 150) [] [AV.fptr [AV.str s] 0], AV.func (Fn.func 152) [] [], AV.func (Fn.func 154) [] [AV.fptr [AV.str s] 0], AV.func (Fn.func 156) [] [AV.fptr [AV.str s] 0], AV.func (Fn.func 149) [] []]) ∧ Q (AV.tuple [AV.agg [AV.str s, I 7, AV.bool true, AV.bool true, AV.func (Fn.func 158) [] [], AV.func (Fn.func 158) [] [], AV.func (Fn.func 158) [] [], AV.func (Fn.func 150) [] [AV.fptr [AV.str s] 0], AV.func (Fn.func 152) [] [], AV.func (Fn.func 154) [] [AV.fptr [AV.str s] 0], AV.func (Fn.func 156) [] [AV.fptr [AV.str s] 0], AV.func (Fn.func 149) [] []], AV.bool true])) (SC 91 [] (AV.fsl true [AV.agg [AV.str [85, 110, 105, 113, 117, 101, 32, 73, 100, 101, 110, 116, 105, 102, 105, 101, 114], I 7, AV.bool false, AV.bool false, AV.nilFunc, AV.nilFunc, AV.nilFunc, AV.func (Fn.func 127) [] [], AV.nilFunc, AV.nilFunc, AV.nilFunc, AV.nilFunc], AV.agg [AV.str [78, 97, 109, 101], I 7, AV.bool true, AV.bool true, AV.func (Fn.func 158) [] [], AV.func (Fn.func 158) [] [], AV.func (Fn.func 158) [] [], AV.func (Fn.func 166) [] [], AV.func (Fn.func 167) [] [], AV.func (Fn.func 168) [] [], AV.func (Fn.func 170) [] [], AV.func (Fn.func 165) [] []], AV.agg [AV.str [79, 98, 106, 101, 99, 116, 32, 84, 121, 112, 101], I 5, AV.bool false, AV.bool false, AV.nilFunc, AV.nilFunc, AV.nilFunc, AV.func (Fn.func 130) [] [], AV.nilFunc, AV.nilFunc, AV.nilFunc, AV.nilFunc], AV.agg [AV.str [67, 114, 121, 112, 116, 111, 103, 114, 97, 112, 104, 105, 99, 32, 65, 108, 103, 111, 114, 105, 116, 104, 109], I 5, AV.bool false, AV.bool true, AV.nilFunc, AV.nilFunc, AV.nilFunc, AV.func (Fn.func 161) [] [AV.fptr [AV.func (Fn.func 132) [] []] 0, AV.fptr [I 1] 0, AV.fptr [I 5] 0], AV.func (Fn.func 162) [] [AV.fptr [I 5] 0, AV.fptr [I 1] 0, AV.fptr [I 100] 0], AV.func (Fn.func 164) [] [AV.fptr [AV.func (Fn.func 132) [] []] 0], AV.nilFunc, AV.nilFunc], AV.agg [AV.str [67, 114, 121, 112, 116, 111, 103, 114, 97, 112, 104, 105, 99, 32, 76, 101, 110, 103, 116, 104], I 2, AV.bool false, AV.bool true, AV.nilFunc, AV.nilFunc, AV.nilFunc, AV.func (Fn.func 161) [] [AV.fptr [AV.func (Fn.func 133) [] []] 0, AV.fptr [I 1] 0, AV.fptr [I 2] 0], AV.func (Fn.func 162) [] [AV.fptr [I 2] 0, AV.fptr [I 1] 0, AV.fptr [I 100000] 0], AV.func (Fn.func 164) [] [AV.fptr [AV.func (Fn.func 133) [] []] 0], AV.nilFunc, AV.nilFunc], AV.agg [AV.str [67, 114, 121, 112, 116, 111, 103, 114, 97, 112, 104, 105, 99, 32, 85, 115, 97, 103, 101, 32, 77, 97, 115, 107], I 2, AV.bool false, AV.bool true, AV.nilFunc, AV.func (Fn.func 125) [] [], AV.nilFunc, AV.func (Fn.func 161) [] [AV.fptr [AV.func (Fn.func 124) [] []] 0, AV.fptr [I 0] 0, AV.fptr [I 2] 0], AV.func (Fn.func 162) [] [AV.fptr [I 2] 0, AV.fptr [I 0] 0, AV.fptr [I 1048575] 0], AV.func (Fn.func 164) [] [AV.fptr [AV.func (Fn.func 124) [] []] 0], AV.nilFunc, AV.nilFunc], AV.agg [AV.str [83, 116, 97, 116, 101], I 5, AV.bool false, AV.bool false, AV.nilFunc, AV.nilFunc, AV.nilFunc, AV.func (Fn.func 134) [] [], AV.nilFunc, AV.nilFunc, AV.nilFunc, AV.nilFunc], AV.agg [AV.str [73, 110, 105, 116, 105, 97, 108, 32, 68, 97, 116, 101], I 9, AV.bool false, AV.bool false, AV.nilFunc, AV.nilFunc, AV.nilFunc, AV.func (Fn.func 172) [] [AV.fptr [I 0] 0], AV.func (Fn.func 173) [] [], AV.func (Fn.func 174) [] [AV.fptr [I 0] 0], AV.func (Fn.func 175) [] [AV.fptr [I 0] 0], AV.nilFunc], AV.agg [AV.str [65, 99, 116, 105, 118, 97, 116, 105, 111, 110, 32, 68, 97, 116, 101], I 9, AV.bool false, AV.bool true, AV.func (Fn.func 125) [] [], AV.func (Fn.func 125) [] [], AV.nilFunc, AV.func (Fn.func 172) [] [AV.fptr [I 1] 0], AV.func (Fn.func 173) [] [], AV.func (Fn.func 174) [] [AV.fptr [I 1] 0], AV.func (Fn.func 175) [] [AV.fptr [I 1] 0], AV.nilFunc], AV.agg [AV.str [80, 114, 111, 99, 101, 115, 115, 32, 83, 116, 97, 114, 116, 32, 68, 97, 116, 101], I 9, AV.bool false, AV.bool true, AV.func (Fn.func 125) [] [], AV.func (Fn.func 125) [] [], AV.func (Fn.func 125) [] [], AV.func (Fn.func 172) [] [AV.fptr [I 2] 0], AV.func (Fn.func 173) [] [], AV.func (Fn.func 174) [] [AV.fptr [I 2] 0], AV.func (Fn.func 175) [] [AV.fptr [I 2] 0], AV.nilFunc], AV.agg [AV.str [80, 114, 111, 116, 101, 99, 116, 32, 83, 116, 111, 112, 32, 68, 97, 116, 101], I 9, AV.bool false, AV.bool true, AV.func (Fn.func 137) [] [], AV.func (Fn.func 137) [] [], AV.func (Fn.func 137) [] [], AV.func (Fn.func 172) [] [AV.fptr [I 3] 0], AV.func (Fn.func 173) [] [], AV.func (Fn.func 174) [] [AV.fptr [I 3] 0], AV.func (Fn.func 175) [] [AV.fptr [I 3] 0], AV.nilFunc], AV.agg [AV.str [68, 101, 97, 99, 116, 105, 118, 97, 116, 105, 111, 110, 32, 68, 97, 116, 101], I 9, AV.bool false, AV.bool true, AV.func (Fn.func 137) [] [], AV.func (Fn.func 137) [] [], AV.nilFunc, AV.func (Fn.func 172) [] [AV.fptr [I 4] 0], AV.func (Fn.func 173) [] [], AV.func (Fn.func 174) [] [AV.fptr [I 4] 0], AV.func (Fn.func 175) [] [AV.fptr [I 4] 0], AV.nilFunc], AV.agg [AV.str [68, 101, 115, 116, 114, 111, 121, 32, 68, 97, 116, 101], I 9, AV.bool false, AV.bool false, AV.nilFunc, AV.nilFunc, AV.nilFunc, AV.func (Fn.func 172) [] [AV.fptr [I 5] 0], AV.func (Fn.func 173) [] [], AV.func (Fn.func 174) [] [AV.fptr [I 5] 0], AV.func (Fn.func 175) [] [AV.fptr [I 5] 0], AV.nilFunc], AV.agg [AV.str [67, 111, 109, 112, 114, 111, 109, 105, 115, 101, 32, 79, 99, 99, 117, 114, 114, 101, 110, 99, 101, 32, 68, 97, 116, 101], I 9, AV.bool false, AV.bool false, AV.nilFunc, AV.nilFunc, AV.nilFunc, AV.func (Fn.func 172) [] [AV.fptr [I 6] 0], AV.func (Fn.func 173) [] [], AV.func (Fn.func 174) [] [AV.fptr [I 6] 0], AV.func (Fn.func 175) [] [AV.fptr [I 6] 0], AV.nilFunc], AV.agg [AV.str [67, 111, 109, 112, 114, 111, 109, 105, 115, 101, 32, 68, 97, 116, 101], I 9, AV.bool false, AV.bool false, AV.nilFunc, AV.nilFunc, AV.nilFunc, AV.func (Fn.func 172) [] [AV.fptr [I 7] 0], AV.func (Fn.func 173) [] [], AV.func (Fn.func 174) [] [AV.fptr [I 7] 0], AV.func (Fn.func 175) [] [AV.fptr [I 7] 0], AV.nilFunc], AV.agg [AV.str [65, 114, 99, 104, 105, 118, 101, 32, 68, 97, 116, 101], I 9, AV.bool false, AV.bool false, AV.nilFunc, AV.nilFunc, AV.nilFunc, AV.func (Fn.func 172) [] [AV.fptr [I 8] 0], AV.func (Fn.func 173) [] [], AV.func (Fn.func 174) [] [AV.fptr [I 8] 0], AV.func (Fn.func 175) [] [AV.fptr [I 8] 0], AV.nilFunc], AV.agg [AV.str [76, 97, 115, 116, 32, 67, 104, 97, 110, 103, 101, 32, 68, 97, 116, 101], I 9, AV.bool false, AV.bool false, AV.nilFunc, AV.nilFunc, AV.nilFunc, AV.func (Fn.func 172) [] [AV.fptr [I 9] 0], AV.func (Fn.func 173) [] [], AV.func (Fn.func 174) [] [AV.fptr [I 9] 0], AV.func (Fn.func 175) [] [AV.fptr [I 9] 0], AV.nilFunc], AV.agg [AV.str [82, 101, 118, 111, 99, 97, 116, 105, 111, 110, 32, 82, 101, 97, 115, 111, 110], I 1, AV.bool false, AV.bool false, AV.nilFunc, AV.nilFunc, AV.nilFunc, AV.func (Fn.func 138) [] [], AV.nilFunc, AV.nilFunc, AV.nilFunc, AV.nilFunc], AV.agg [AV.str [76, 105, 110, 107], I 1, AV.bool true, AV.bool true, AV.func (Fn.func 158) [] [], AV.func (Fn.func 158) [] [], AV.func (Fn.func 158) [] [], AV.func (Fn.func 178) [] [], AV.func (Fn.func 179) [] [], AV.func (Fn.func 180) [] [], AV.func (Fn.func 182) [] [], AV.func (Fn.func 177) [] []], AV.agg [AV.str [85, 115, 97, 103, 101, 32, 76, 105, 109, 105, 116, 115], I 1, AV.bool false, AV.bool true, AV.func (Fn.func 158) [] [], AV.func (Fn.func 189) [] [], AV.func (Fn.func 189) [] [], AV.func (Fn.func 184) [] [], AV.func (Fn.func 185) [] [], AV.func (Fn.func 187) [] [], AV.func (Fn.func 188) [] [], AV.nilFunc]]) ∧ mtB (beqBytes [85, 110, 105, 113, 117, 101, 32, 73, 100, 101, 110, 116, 105, 102, 105, 101, 114] s) (Q (AV.tuple [AV.agg [AV.str [85, 110, 105, 113, 117, 101, 32, 73, 100, 101, 110, 116, 105, 102, 105, 101, 114], I 7, AV.bool false, AV.bool false, AV.nilFunc, AV.nilFunc, AV.nilFunc, AV.func (Fn.func 127) [] [], AV.nilFunc, AV.nilFunc, AV.nilFunc, AV.nilFunc], AV.bool true])) (mtB (beqBytes [78, 97, 109, 101] s) (Q (AV.tuple [AV.agg [AV.str [78, 97, 109, 101], I 7, AV.bool true, AV.bool true, AV.func (Fn.func 158) [] [], AV.func (Fn.func 158) [] [], AV.func (Fn.func 158) [] [], AV.func (Fn.func 166) [] [], AV.func (Fn.func 167) [] [], AV.func (Fn.func 168) [] [], AV.func (Fn.func 170) [] [], AV.func (Fn.func 165) [] []], AV.bool true])) (mtB (beqBytes [79, 98, 106, 101, 99, 116, 32, 84, 121, 112, 101] s) (Q (AV.tuple [AV.agg [AV.str [79, 98, 106, 101, 99, 116, 32, 84, 121, 112, 101], I 5, AV.bool false, AV.bool false, AV.nilFunc, AV.nilFunc, AV.nilFunc, AV.func (Fn.func 130) [] [], AV.nilFunc, AV.nilFunc, AV.nilFunc, AV.nilFunc], AV.bool true])) (mtB (beqBytes [67, 114, 121, 112, 116, 111, 103, 114, 97, 112, 104, 105, 99, 32, 65, 108, 103, 111, 114, 105, 116, 104, 109] s) (Q (AV.tuple [AV.agg [AV.str [67, 114, 121, 112, 116, 111, 103, 114, 97, 112, 104, 105, 99, 32, 65, 108, 103, 111, 114, 105, 116, 104, 109], I 5, AV.bool false, AV.bool true, AV.nilFunc, AV.nilFunc, AV.nilFunc, AV.func (Fn.func 161) [] [AV.fptr [AV.func (Fn.func 132) [] []] 0, AV.fptr [I 1] 0, AV.fptr [I 5] 0], AV.func (Fn.func 162) [] [AV.fptr [I 5] 0, AV.fptr [I 1] 0, AV.fptr [I 100] 0], AV.func (Fn.func 164) [] [AV.fptr [AV.func (Fn.func 132) [] []] 0], AV.nilFunc, AV.nilFunc], AV.bool true])) (mtB (beqBytes [67, 114, 121, 112, 116, 111, 103, 114, 97, 112, 104, 105, 99, 32, 76, 101, 110, 103, 116, 104] s) (Q (AV.tuple [AV.agg [AV.str [67, 114, 121, 112, 116, 111, 103, 114, 97, 112, 104, 105, 99, 32, 76, 101, 110, 103, 116, 104], I 2, AV.bool false, AV.bool true, AV.nilFunc, AV.nilFunc, AV.nilFunc, AV.func (Fn.func 161) [] [AV.fptr [AV.func (Fn.func 133) [] []] 0, AV.fptr [I 1] 0, AV.fptr [I 2] 0], AV.func (Fn.func 162) [] [AV.fptr [I 2] 0, AV.fptr [I 1] 0, AV.fptr [I 100000] 0], AV.func (Fn.func 164) [] [AV.fptr [AV.func (Fn.func 133) [] []] 0], AV.nilFunc, AV.nilFunc], AV.bool true])) (mtB (beqBytes [67, 114, 121, 112, 116, 111, 103, 114, 97, 112, 104, 105, 99, 32, 85, 115, 97, 103, 101, 32, 77, 97, 115, 107] s) (Q (AV.tuple [AV.agg [AV.str [67, 114, 121, 112, 116, 111, 103, 114, 97, 112, 104, 105, 99, 32, 85, 115, 97, 103, 101, 32, 77, 97, 115, 107], I 2, AV.bool false, AV.bool true, AV.nilFunc, AV.func (Fn.func 125) [] [], AV.nilFunc, AV.func (Fn.func 161) [] [AV.fptr [AV.func (Fn.func 124) [] []] 0, AV.fptr [I 0] 0, AV.fptr [I 2] 0], AV.func (Fn.func 162) [] [AV.fptr [I 2] 0, AV.fptr [I 0] 0, AV.fptr [I 1048575] 0], AV.func (Fn.func 164) [] [AV.fptr [AV.func (Fn.func 124) [] []] 0], AV.nilFunc, AV.nilFunc], AV.bool true])) (mtB (beqBytes [83, 116, 97, 116, 101] s) (Q (AV.tuple [AV.agg [AV.str [83, 116, 97, 116, 101], I 5, AV.bool false, AV.bool false, AV.nilFunc, AV.nilFunc, AV.nilFunc, AV.func (Fn.func 134) [] [], AV.nilFunc, AV.nilFunc, AV.nilFunc, AV.nilFunc], AV.bool true])) (mtB (beqBytes [73, 110, 105, 116, 105, 97, 108, 32, 68, 97, 116, 101] s) (Q (AV.tuple [AV.agg [AV.str [73, 110, 105, 116, 105, 97, 108, 32, 68, 97, 116, 101], I 9, AV.bool false, AV.bool false, AV.nilFunc, AV.nilFunc, AV.nilFunc, AV.func (Fn.func 172) [] [AV.fptr [I 0] 0], AV.func (Fn.func 173) [] [], AV.func (Fn.func 174) [] [AV.fptr [I 0] 0], AV.func (Fn.func 175) [] [AV.fptr [I 0] 0], AV.nilFunc], AV.bool true])) (mtB (beqBytes [65, 99, 116, 105, 118, 97, 116, 105, 111, 110, 32, 68, 97, 116, 101] s) (Q (AV.tuple [AV.agg [AV.str [65, 99, 116, 105, 118, 97, 116, 105, 111, 110, 32, 68, 97, 116, 101], I 9, AV.bool false, AV.bool true, AV.func (Fn.func 125) [] [], AV.func (Fn.func 125) [] [], AV.nilFunc, AV.func (Fn.func 172) [] [AV.fptr [I 1] 0], AV.func (Fn.func 173) [] [], AV.func (Fn.func 174) [] [AV.fptr [I 1] 0], AV.func (Fn.func 175) [] [AV.fptr [I 1] 0], AV.nilFunc], AV.bool true])) (mtB (beqBytes [80, 114, 111, 99, 101, 115, 115, 32, 83, 116, 97, 114, 116, 32, 68, 97, 116, 101] s) (Q (AV.tuple [AV.agg [AV.str [80, 114, 111, 99, 101, 115, 115, 32, 83, 116, 97, 114, 116, 32, 68, 97, 116, 101], I 9, AV.bool false, AV.bool true, AV.func (Fn.func 125) [] [], AV.func (Fn.func 125) [] [], AV.func (Fn.func 125) [] [], AV.func (Fn.func 172) [] [AV.fptr [I 2] 0], AV.func (Fn.func 173) [] [], AV.func (Fn.func 174) [] [AV.fptr [I 2] 0], AV.func (Fn.func 175) [] [AV.fptr [I 2] 0], AV.nilFunc], AV.bool true])) (mtB (beqBytes [80, 114, 111, 116, 101, 99, 116, 32, 83, 116, 111, 112, 32, 68, 97, 116, 101] s) (Q (AV.tuple [AV.agg [AV.str [80, 114, 111, 116, 101, 99, 116, 32, 83, 116, 111, 112, 32, 68, 97, 116, 101], I 9, AV.bool false, AV.bool true, AV.func (Fn.func 137) [] [], AV.func (Fn.func 137) [] [], AV.func (Fn.func 137) [] [], AV.func (Fn.func 172) [] [AV.fptr [I 3] 0], AV.func (Fn.func 173) [] [], AV.func (Fn.func 174) [] [AV.fptr [I 3] 0], AV.func (Fn.func 175) [] [AV.fptr [I 3] 0], AV.nilFunc], AV.bool true])) (mtB (beqBytes [68, 101, 97, 99, 116, 105, 118, 97, 116, 105, 111, 110, 32, 68, 97, 116, 101] s) (Q (AV.tuple [AV.agg [AV.str [68, 101, 97, 99, 116, 105, 118, 97, 116, 105, 111, 110, 32, 68, 97, 116, 101], I 9, AV.bool false, AV.bool true, AV.func (Fn.func 137) [] [], AV.func (Fn.func 137) [] [], AV.nilFunc, AV.func (Fn.func 172) [] [AV.fptr [I 4] 0], AV.func (Fn.func 173) [] [], AV.func (Fn.func 174) [] [AV.fptr [I 4] 0], AV.func (Fn.func 175) [] [AV.fptr [I 4] 0], AV.nilFunc], AV.bool true])) (mtB (beqBytes [68, 101, 115, 116, 114, 111, 121, 32, 68, 97, 116, 101] s) (Q (AV.tuple [AV.agg [AV.str [68, 101, 115, 116, 114, 111, 121, 32, 68, 97, 116, 101], I 9, AV.bool false, AV.bool false, AV.nilFunc, AV.nilFunc, AV.nilFunc, AV.func (Fn.func 172) [] [AV.fptr [I 5] 0], AV.func (Fn.func 173) [] [], AV.func (Fn.func 174) [] [AV.fptr [I 5] 0], AV.func (Fn.func 175) [] [AV.fptr [I 5] 0], AV.nilFunc], AV.bool true])) (mtB (beqBytes [67, 111, 109, 112, 114, 111, 109, 105, 115, 101, 32, 79, 99, 99, 117, 114, 114, 101, 110, 99, 101, 32, 68, 97, 116, 101] s) (Q (AV.tuple [AV.agg [AV.str [67, 111, 109, 112, 114, 111, 109, 105, 115, 101, 32, 79, 99, 99, 117, 114, 114, 101, 110, 99, 101, 32, 68, 97, 116, 101], I 9, AV.bool false, AV.bool false, AV.nilFunc, AV.nilFunc, AV.nilFunc, AV.func (Fn.func 172) [] [AV.fptr [I 6] 0], AV.func (Fn.func 173) [] [], AV.func (Fn.func 174) [] [AV.fptr [I 6] 0], AV.func (Fn.func 175) [] [AV.fptr [I 6] 0], AV.nilFunc], AV.bool true])) (mtB (beqBytes [67, 111, 109, 112, 114, 111, 109, 105, 115, 101, 32, 68, 97, 116, 101] s) (Q (AV.tuple [AV.agg [AV.str [67, 111, 109, 112, 114, 111, 109, 105, 115, 101, 32, 68, 97, 116, 101], I 9, AV.bool false, AV.bool false, AV.nilFunc, AV.nilFunc, AV.nilFunc, AV.func (Fn.func 172) [] [AV.fptr [I 7] 0], AV.func (Fn.func 173) [] [], AV.func (Fn.func 174) [] [AV.fptr [I 7] 0], AV.func (Fn.func 175) [] [AV.fptr [I 7] 0], AV.nilFunc], AV.bool true])) (mtB (beqBytes [65, 114, 99, 104, 105, 118, 101, 32, 68, 97, 116, 101] s) (Q (AV.tuple [AV.agg [AV.str [65, 114, 99, 104, 105, 118, 101, 32, 68, 97, 116, 101], I 9, AV.bool false, AV.bool false, AV.nilFunc, AV.nilFunc, AV.nilFunc, AV.func (Fn.func 172) [] [AV.fptr [I 8] 0], AV.func (Fn.func 173) [] [], AV.func (Fn.func 174) [] [AV.fptr [I 8] 0], AV.func (Fn.func 175) [] [AV.fptr [I 8] 0], AV.nilFunc], AV.bool true])) (mtB (beqBytes [76, 97, 115, 116, 32, 67, 104, 97, 110, 103, 101, 32, 68, 97, 116, 101] s) (Q (AV.tuple [AV.agg [AV.str [76, 97, 115, 116, 32, 67, 104, 97, 110, 103, 101, 32, 68, 97, 116, 101], I 9, AV.bool false, AV.bool false, AV.nilFunc, AV.nilFunc, AV.nilFunc, AV.func (Fn.func 172) [] [AV.fptr [I 9] 0], AV.func (Fn.func 173) [] [], AV.func (Fn.func 174) [] [AV.fptr [I 9] 0], AV.func (Fn.func 175) [] [AV.fptr [I 9] 0], AV.nilFunc], AV.bool true])) (mtB (beqBytes [82, 101, 118, 111, 99, 97, 116, 105, 111, 110, 32, 82, 101, 97, 115, 111, 110] s) (Q (AV.tuple [AV.agg [AV.str [82, 101, 118, 111, 99, 97, 116, 105, 111, 110, 32, 82, 101, 97, 115, 111, 110], I 1, AV.bool false, AV.bool false, AV.nilFunc, AV.nilFunc, AV.nilFunc, AV.func (Fn.func 138) [] [], AV.nilFunc, AV.nilFunc, AV.nilFunc, AV.nilFunc], AV.bool true])) (mtB (beqBytes [76, 105, 110, 107] s) (Q (AV.tuple [AV.agg [AV.str [76, 105, 110, 107], I 1, AV.bool true, AV.bool true, AV.func (Fn.func 158) [] [], AV.func (Fn.func 158) [] [], AV.func (Fn.func 158) [] [], AV.func (Fn.func 178) [] [], AV.func (Fn.func 179) [] [], AV.func (Fn.func 180) [] [], AV.func (Fn.func 182) [] [], AV.func (Fn.func 177) [] []], AV.bool true])) (mtB (beqBytes [85, 115, 97, 103, 101, 32, 76, 105, 109, 105, 116, 115] s) (Q (AV.tuple [AV.agg [AV.str [85, 115, 97, 103, 101, 32, 76, 105, 109, 105, 116, 115], I 1, AV.bool false, AV.bool true, AV.func (Fn.func 158) [] [], AV.func (Fn.func 189) [] [], AV.func (Fn.func 189) [] [], AV.func (Fn.func 184) [] [], AV.func (Fn.func 185) [] [], AV.func (Fn.func 187) [] [], AV.func (Fn.func 188) [] [], AV.nilFunc], AV.bool true])) (Q (AV.tuple [AV.agg [AV.str [], I 0, AV.bool false, AV.bool false, AV.nilFunc, AV.nilFunc, AV.nilFunc, AV.nilFunc, AV.nilFunc, AV.nilFunc, AV.nilFunc, AV.nilFunc], AV.bool false]))))))))))))))))))))))) := by kernel_rfl
def findL (s : List UInt8) : List Kd → Option Kd
 | [] => none
 | k :: r => match beqBytes (nameK k) s with
  | true => some k
  | false => findL s r
def findK (c : Bool) (s : List UInt8) : Option Kd := match c with
 | true => some (.cus s)
 | false => findL s kinds
def rowO : Option Kd → AV
 | some k => .tuple [rowA k, .bool true]
 | none => .tuple [rowZ, .bool false]
theorem closed_row (k : Kd) : closedA (rowA k) = true := by
 cases k with
 | dat k =>
  have h1 : closedA (addD k) = true := by unfold addD; split <;> rfl
  have h2 : closedA (remD k) = true := by unfold remD; split <;> rfl
  simp [rowA, rowC, closedA, closedAll, addK, modK, remK, h1, h2, getF, rightF, putF, dropF, roomF, fnA, fnC, nI]
 | _ => rfl
set_option maxRecDepth 20000 in
theorem find_sem {c : Bool} {s : List UInt8} (hc : SC 111 [.str s] (.bool c)) : SC 61 [.str s] (rowO (findK c s)) := by
 refine fnK_semE (A := fiA c s) base0 aidJ_ok (fnLs_of (LsOk.no rfl)) rfl ?_
 rw [find_fn]
 refine And.intro hc (mtB_of (fun e => And.intro (custom_sem s) ?_) (fun e => And.intro table_sem ?_))
 ·subst e; exact end_eq rfl (by simp [findK, rowO, closedA, closedAll, closed_row])
 ·subst e
  simp only [findK]
  repeat' refine mtB_of (fun _ => ?_) (fun _ => ?_)
  all_goals
   simp only [kinds, findL, nameK, dateN, *]
   exact end_eq rfl (by simp [rowO, closedA, closedAll, closed_row, rowZ])
end Go.Proofs.YtjhggnebkfpgcaaGreatDoor
