/- Items read as attributes: what the functions answer. -/
import Derived.Test.YtjhggnebkfpgcaaGreatDoorAttr
import Derived.KernelRfl
namespace Go.Proofs.YtjhggnebkfpgcaaGreatDoor
open Go Go.RowKit
open Go.Proofs.Abs

/-- What is asked of three items: by the tag. -/
def shT (r0 r1 r2 : Bool) : List AV → Option AV
  | [_, .int _ (.ofNat n), _] => match Nat.beq n 4325384 with
    | true => some (.bool r0)
    | false => match Nat.beq n 4325386 with
      | true => some (.bool r1)
      | false => some (.bool r2)
  | _ => none
noncomputable def rdA (r0 r1 r2 : Bool) (k : Nat) (c0 c1 cl : List AV) (s : List UInt8) (v : AV) : Aid := aidJ [(2, 6, .res (I (.ofNat k))), (2, 12, .res (I (.ofNat k))), (4, 8, .res (I (.ofNat k))), (7, 2, .res (I (.ofNat k))), (4, 2, .res (.fptr c0 0)), (4, 10, .res (.fptr cl 0)), (8, 2, .res (.fptr c1 0)), (12, 2, .res (.str s))] []
  (manyF [(89, shT r0 r1 r2), (88, fun _ => some v)]) [] []
theorem read_fn (r0 r1 r2 : Bool) (k : Nat) (s : List UInt8) (t y n t0 y0 n0 t1 y1 n1 tl yl nl : Int) (D K D0 K0 D1 K1 Dl Kl E L : AV) (Q : AV → Heap → Nat → Prop) : fnK Tryz.prog opts0 40 (rdA r0 r1 r2 k [I t0, I y0, I n0, D0, K0] [I t1, I y1, I n1, D1, K1] [I tl, I yl, I nl, Dl, Kl] s (.agg [I tl, I yl, I nl, E, L])) 37 [.agg [I t, I y, I n, D, K]] [] 0 Q =
    (SemCall Tryz.prog opts0.glob 89 [AV.agg [AV.int IntKind.i64 t, AV.int IntKind.i64 y, AV.int IntKind.i64 n, D, K], AV.int IntKind.i64 4325384, AV.int IntKind.i64 1] (AV.bool r0) ∧ mtB (!r0) (Q (AV.tuple [AV.agg [AV.str [], AV.int IntKind.i64 0, AV.int IntKind.i64 0, AV.int IntKind.i64 0, AV.int IntKind.i64 0, AV.nilsl, AV.nilsl], AV.bool false]) [(3, some (Blk.cells [AV.str [], AV.int IntKind.i64 0, AV.int IntKind.i64 0, AV.int IntKind.i64 0, AV.int IntKind.i64 0, AV.nilsl, AV.nilsl])), (1, some (Blk.cells [AV.str [], AV.int IntKind.i64 0, AV.int IntKind.i64 0, AV.int IntKind.i64 0, AV.int IntKind.i64 0, AV.nilsl, AV.nilsl])), (0, some (Blk.cells [AV.int IntKind.i64 t, AV.int IntKind.i64 y, AV.int IntKind.i64 n, D, K]))] 22) (builtinA Tryz.prog Builtin.len { toList := [35] } [K] = some (Eff.val (AV.int IntKind.i64 (Int.ofNat k))) ∧ mtB (ltInt (Int.ofNat k) 2) (Q (AV.tuple [AV.agg [AV.str [], AV.int IntKind.i64 0, AV.int IntKind.i64 0, AV.int IntKind.i64 0, AV.int IntKind.i64 0, AV.nilsl, AV.nilsl], AV.bool false]) [(3, some (Blk.cells [AV.str [], AV.int IntKind.i64 0, AV.int IntKind.i64 0, AV.int IntKind.i64 0, AV.int IntKind.i64 0, AV.nilsl, AV.nilsl])), (1, some (Blk.cells [AV.str [], AV.int IntKind.i64 0, AV.int IntKind.i64 0, AV.int IntKind.i64 0, AV.int IntKind.i64 0, AV.nilsl, AV.nilsl])), (0, some (Blk.cells [AV.int IntKind.i64 t, AV.int IntKind.i64 y, AV.int IntKind.i64 n, D, K]))] 22) (builtinA Tryz.prog Builtin.len { toList := [35] } [K] = some (Eff.val (AV.int IntKind.i64 (Int.ofNat k))) ∧ mtB (ltInt 3 (Int.ofNat k)) (Q (AV.tuple [AV.agg [AV.str [], AV.int IntKind.i64 0, AV.int IntKind.i64 0, AV.int IntKind.i64 0, AV.int IntKind.i64 0, AV.nilsl, AV.nilsl], AV.bool false]) [(3, some (Blk.cells [AV.str [], AV.int IntKind.i64 0, AV.int IntKind.i64 0, AV.int IntKind.i64 0, AV.int IntKind.i64 0, AV.nilsl, AV.nilsl])), (1, some (Blk.cells [AV.str [], AV.int IntKind.i64 0, AV.int IntKind.i64 0, AV.int IntKind.i64 0, AV.int IntKind.i64 0, AV.nilsl, AV.nilsl])), (0, some (Blk.cells [AV.int IntKind.i64 t, AV.int IntKind.i64 y, AV.int IntKind.i64 n, D, K]))] 22) (indexAddrA Tryz.prog 35 K (AV.int IntKind.i64 0) = some (AV.fptr [AV.int IntKind.i64 t0, AV.int IntKind.i64 y0, AV.int IntKind.i64 n0, D0, K0] 0) ∧ builtinA Tryz.prog Builtin.len { toList := [35] } [K] = some (Eff.val (AV.int IntKind.i64 (Int.ofNat k))) ∧ indexAddrA Tryz.prog 35 K (AV.int IntKind.i64 (wrapA IntKind.i64 (Int.ofNat k - 1))) = some (AV.fptr [AV.int IntKind.i64 tl, AV.int IntKind.i64 yl, AV.int IntKind.i64 nl, Dl, Kl] 0) ∧ oblB (fitsT Tryz.prog 37 (AV.agg [AV.int IntKind.i64 t0, AV.int IntKind.i64 y0, AV.int IntKind.i64 n0, D0, K0]) 5) (oblB (fitsT Tryz.prog 37 (AV.agg [AV.int IntKind.i64 tl, AV.int IntKind.i64 yl, AV.int IntKind.i64 nl, Dl, Kl]) 5) (SemCall Tryz.prog opts0.glob 89 [AV.agg [AV.int IntKind.i64 t0, AV.int IntKind.i64 y0, AV.int IntKind.i64 n0, D0, K0], AV.int IntKind.i64 4325386, AV.int IntKind.i64 7] (AV.bool r1) ∧ mtB (!r1) (Q (AV.tuple [AV.agg [AV.str [], AV.int IntKind.i64 0, AV.int IntKind.i64 0, AV.int IntKind.i64 0, AV.int IntKind.i64 0, AV.nilsl, AV.nilsl], AV.bool false]) [(32, some (Blk.cells [AV.int IntKind.i64 tl, AV.int IntKind.i64 yl, AV.int IntKind.i64 nl, Dl, Kl])), (31, some (Blk.cells [AV.int IntKind.i64 t0, AV.int IntKind.i64 y0, AV.int IntKind.i64 n0, D0, K0])), (3, some (Blk.cells [AV.str [], AV.int IntKind.i64 0, AV.int IntKind.i64 0, AV.int IntKind.i64 0, AV.int IntKind.i64 0, AV.nilsl, AV.nilsl])), (1, some (Blk.cells [AV.str [], AV.int IntKind.i64 0, AV.int IntKind.i64 0, AV.int IntKind.i64 0, AV.int IntKind.i64 0, AV.nilsl, AV.nilsl])), (0, some (Blk.cells [AV.int IntKind.i64 t, AV.int IntKind.i64 y, AV.int IntKind.i64 n, D, K]))] 46) (mtB (!beqInt tl 4325387) (Q (AV.tuple [AV.agg [AV.str [], AV.int IntKind.i64 0, AV.int IntKind.i64 0, AV.int IntKind.i64 0, AV.int IntKind.i64 0, AV.nilsl, AV.nilsl], AV.bool false]) [(32, some (Blk.cells [AV.int IntKind.i64 tl, AV.int IntKind.i64 yl, AV.int IntKind.i64 nl, Dl, Kl])), (31, some (Blk.cells [AV.int IntKind.i64 t0, AV.int IntKind.i64 y0, AV.int IntKind.i64 n0, D0, K0])), (3, some (Blk.cells [AV.str [], AV.int IntKind.i64 0, AV.int IntKind.i64 0, AV.int IntKind.i64 0, AV.int IntKind.i64 0, AV.nilsl, AV.nilsl])), (1, some (Blk.cells [AV.str [], AV.int IntKind.i64 0, AV.int IntKind.i64 0, AV.int IntKind.i64 0, AV.int IntKind.i64 0, AV.nilsl, AV.nilsl])), (0, some (Blk.cells [AV.int IntKind.i64 t, AV.int IntKind.i64 y, AV.int IntKind.i64 n, D, K]))] 46) (builtinA Tryz.prog Builtin.len { toList := [35] } [K] = some (Eff.val (AV.int IntKind.i64 (Int.ofNat k))) ∧ mtB (beqInt (Int.ofNat k) 3) (indexAddrA Tryz.prog 35 K (AV.int IntKind.i64 1) = some (AV.fptr [AV.int IntKind.i64 t1, AV.int IntKind.i64 y1, AV.int IntKind.i64 n1, D1, K1] 0) ∧ oblB (fitsT Tryz.prog 37 (AV.agg [AV.int IntKind.i64 t1, AV.int IntKind.i64 y1, AV.int IntKind.i64 n1, D1, K1]) 5) (SemCall Tryz.prog opts0.glob 89 [AV.agg [AV.int IntKind.i64 t1, AV.int IntKind.i64 y1, AV.int IntKind.i64 n1, D1, K1], AV.int IntKind.i64 4325385, AV.int IntKind.i64 2] (AV.bool r2) ∧ mtB (!r2) (Q (AV.tuple [AV.agg [AV.str [], AV.int IntKind.i64 0, AV.int IntKind.i64 0, AV.int IntKind.i64 0, AV.int IntKind.i64 0, AV.nilsl, AV.nilsl], AV.bool false]) [(51, some (Blk.cells [AV.int IntKind.i64 t1, AV.int IntKind.i64 y1, AV.int IntKind.i64 n1, D1, K1])), (32, some (Blk.cells [AV.int IntKind.i64 tl, AV.int IntKind.i64 yl, AV.int IntKind.i64 nl, Dl, Kl])), (31, some (Blk.cells [AV.int IntKind.i64 t0, AV.int IntKind.i64 y0, AV.int IntKind.i64 n0, D0, K0])), (3, some (Blk.cells [AV.str [], AV.int IntKind.i64 0, AV.int IntKind.i64 0, AV.int IntKind.i64 0, AV.int IntKind.i64 0, AV.nilsl, AV.nilsl])), (1, some (Blk.cells [AV.str [], AV.int IntKind.i64 0, AV.int IntKind.i64 0, AV.int IntKind.i64 0, AV.int IntKind.i64 0, AV.nilsl, AV.nilsl])), (0, some (Blk.cells [AV.int IntKind.i64 t, AV.int IntKind.i64 y, AV.int IntKind.i64 n, D, K]))] 64) (mtB (!ltInt 0 n1) (Q (AV.tuple [AV.agg [AV.str [], AV.int IntKind.i64 0, AV.int IntKind.i64 0, AV.int IntKind.i64 0, AV.int IntKind.i64 0, AV.nilsl, AV.nilsl], AV.bool false]) [(51, some (Blk.cells [AV.int IntKind.i64 t1, AV.int IntKind.i64 y1, AV.int IntKind.i64 n1, D1, K1])), (32, some (Blk.cells [AV.int IntKind.i64 tl, AV.int IntKind.i64 yl, AV.int IntKind.i64 nl, Dl, Kl])), (31, some (Blk.cells [AV.int IntKind.i64 t0, AV.int IntKind.i64 y0, AV.int IntKind.i64 n0, D0, K0])), (3, some (Blk.cells [AV.str [], AV.int IntKind.i64 0, AV.int IntKind.i64 0, AV.int IntKind.i64 0, AV.int IntKind.i64 0, AV.nilsl, AV.nilsl])), (1, some (Blk.cells [AV.str [], AV.int IntKind.i64 0, AV.int IntKind.i64 0, AV.int IntKind.i64 0, AV.int IntKind.i64 0, AV.nilsl, AV.nilsl])), (0, some (Blk.cells [AV.int IntKind.i64 t, AV.int IntKind.i64 y, AV.int IntKind.i64 n, D, K]))] 64) (convA Tryz.prog 23 9 D0 = some (Eff.val (AV.str s)) ∧ SemCall Tryz.prog opts0.glob 88 [AV.agg [AV.int IntKind.i64 tl, AV.int IntKind.i64 yl, AV.int IntKind.i64 nl, Dl, Kl]] (AV.agg [AV.int IntKind.i64 tl, AV.int IntKind.i64 yl, AV.int IntKind.i64 nl, E, L]) ∧ oblB (fitsT Tryz.prog 37 (AV.agg [AV.int IntKind.i64 tl, AV.int IntKind.i64 yl, AV.int IntKind.i64 nl, E, L]) 5) (oblB (fitsT Tryz.prog 39 (AV.agg [AV.str s, AV.int IntKind.i64 n1, AV.int IntKind.i64 tl, AV.int IntKind.i64 yl, AV.int IntKind.i64 nl, E, L]) 7) (Q (AV.tuple [AV.agg [AV.str s, AV.int IntKind.i64 n1, AV.int IntKind.i64 tl, AV.int IntKind.i64 yl, AV.int IntKind.i64 nl, E, L], AV.bool true]) [(51, some (Blk.cells [AV.int IntKind.i64 t1, AV.int IntKind.i64 y1, AV.int IntKind.i64 n1, D1, K1])), (32, some (Blk.cells [AV.int IntKind.i64 tl, AV.int IntKind.i64 yl, AV.int IntKind.i64 nl, Dl, Kl])), (31, some (Blk.cells [AV.int IntKind.i64 t0, AV.int IntKind.i64 y0, AV.int IntKind.i64 n0, D0, K0])), (3, some (Blk.cells [AV.str s, AV.int IntKind.i64 n1, AV.int IntKind.i64 tl, AV.int IntKind.i64 yl, AV.int IntKind.i64 nl, E, L])), (1, some (Blk.cells [AV.str s, AV.int IntKind.i64 n1, AV.int IntKind.i64 tl, AV.int IntKind.i64 yl, AV.int IntKind.i64 nl, E, L])), (0, some (Blk.cells [AV.int IntKind.i64 t, AV.int IntKind.i64 y, AV.int IntKind.i64 n, D, K]))] 77)))))) (convA Tryz.prog 23 9 D0 = some (Eff.val (AV.str s)) ∧ SemCall Tryz.prog opts0.glob 88 [AV.agg [AV.int IntKind.i64 tl, AV.int IntKind.i64 yl, AV.int IntKind.i64 nl, Dl, Kl]] (AV.agg [AV.int IntKind.i64 tl, AV.int IntKind.i64 yl, AV.int IntKind.i64 nl, E, L]) ∧ oblB (fitsT Tryz.prog 37 (AV.agg [AV.int IntKind.i64 tl, AV.int IntKind.i64 yl, AV.int IntKind.i64 nl, E, L]) 5) (oblB (fitsT Tryz.prog 39 (AV.agg [AV.str s, AV.int IntKind.i64 0, AV.int IntKind.i64 tl, AV.int IntKind.i64 yl, AV.int IntKind.i64 nl, E, L]) 7) (Q (AV.tuple [AV.agg [AV.str s, AV.int IntKind.i64 0, AV.int IntKind.i64 tl, AV.int IntKind.i64 yl, AV.int IntKind.i64 nl, E, L], AV.bool true]) [(32, some (Blk.cells [AV.int IntKind.i64 tl, AV.int IntKind.i64 yl, AV.int IntKind.i64 nl, Dl, Kl])), (31, some (Blk.cells [AV.int IntKind.i64 t0, AV.int IntKind.i64 y0, AV.int IntKind.i64 n0, D0, K0])), (3, some (Blk.cells [AV.str s, AV.int IntKind.i64 0, AV.int IntKind.i64 tl, AV.int IntKind.i64 yl, AV.int IntKind.i64 nl, E, L])), (1, some (Blk.cells [AV.str s, AV.int IntKind.i64 0, AV.int IntKind.i64 tl, AV.int IntKind.i64 yl, AV.int IntKind.i64 nl, E, L])), (0, some (Blk.cells [AV.int IntKind.i64 t, AV.int IntKind.i64 y, AV.int IntKind.i64 n, D, K]))] 59))))))))))) := by kernel_rfl
noncomputable def rrA (r0 r1 r2 : Bool) (k : Nat) (c0 c1 cl : List AV) (s : List UInt8) : Aid := aidJ [(1, 6, .res (I (.ofNat k))), (1, 12, .res (I (.ofNat k))), (1, 18, .res (.fptr c0 0)), (3, 2, .res (.fptr c0 0)), (3, 5, .res (.str s)), (3, 10, .res (I (.ofNat k))), (3, 12, .res (.fptr cl 0)), (4, 2, .res (I (.ofNat k))), (5, 2, .res (.fptr c1 0)), (5, 9, .res (.fptr c1 0)), (7, 2, .res (.fptr c1 0))] []
  (manyF [(90, shT r0 r1 r2)]) [] []
theorem readr_fn (r0 r1 r2 : Bool) (k : Nat) (s : List UInt8) (t y n t0 y0 n0 t1 y1 n1 tl yl nl : Int) (D K D0 K0 D1 K1 Dl Kl : AV) (Q : AV → Heap → Nat → Prop) : fnK Tryz.prog opts0 40 (rrA r0 r1 r2 k [I t0, I y0, I n0, D0, K0] [I t1, I y1, I n1, D1, K1] [I tl, I yl, I nl, Dl, Kl] s) 38 [.agg [I t, I y, I n, D, K]] [] 0 Q =
    (SemCall Tryz.prog opts0.glob 90 [AV.agg [AV.int IntKind.i64 t, AV.int IntKind.i64 y, AV.int IntKind.i64 n, D, K], AV.int IntKind.i64 4325384, AV.int IntKind.i64 1] (AV.bool r0) ∧ mtB (!r0) (Q (AV.tuple [AV.agg [AV.str [], AV.int IntKind.i64 0, AV.int IntKind.i64 0, AV.int IntKind.i64 0, AV.int IntKind.i64 0, AV.nilsl, AV.nilsl], AV.bool false]) [(1, some (Blk.cells [AV.str [], AV.int IntKind.i64 0, AV.int IntKind.i64 0, AV.int IntKind.i64 0, AV.int IntKind.i64 0, AV.nilsl, AV.nilsl])), (0, some (Blk.cells [AV.int IntKind.i64 t, AV.int IntKind.i64 y, AV.int IntKind.i64 n, D, K]))] 29) (builtinA Tryz.prog Builtin.len { toList := [35] } [K] = some (Eff.val (AV.int IntKind.i64 (Int.ofNat k))) ∧ mtB (ltInt (Int.ofNat k) 2) (Q (AV.tuple [AV.agg [AV.str [], AV.int IntKind.i64 0, AV.int IntKind.i64 0, AV.int IntKind.i64 0, AV.int IntKind.i64 0, AV.nilsl, AV.nilsl], AV.bool false]) [(1, some (Blk.cells [AV.str [], AV.int IntKind.i64 0, AV.int IntKind.i64 0, AV.int IntKind.i64 0, AV.int IntKind.i64 0, AV.nilsl, AV.nilsl])), (0, some (Blk.cells [AV.int IntKind.i64 t, AV.int IntKind.i64 y, AV.int IntKind.i64 n, D, K]))] 29) (builtinA Tryz.prog Builtin.len { toList := [35] } [K] = some (Eff.val (AV.int IntKind.i64 (Int.ofNat k))) ∧ mtB (ltInt 3 (Int.ofNat k)) (Q (AV.tuple [AV.agg [AV.str [], AV.int IntKind.i64 0, AV.int IntKind.i64 0, AV.int IntKind.i64 0, AV.int IntKind.i64 0, AV.nilsl, AV.nilsl], AV.bool false]) [(1, some (Blk.cells [AV.str [], AV.int IntKind.i64 0, AV.int IntKind.i64 0, AV.int IntKind.i64 0, AV.int IntKind.i64 0, AV.nilsl, AV.nilsl])), (0, some (Blk.cells [AV.int IntKind.i64 t, AV.int IntKind.i64 y, AV.int IntKind.i64 n, D, K]))] 29) (indexAddrA Tryz.prog 35 K (AV.int IntKind.i64 0) = some (AV.fptr [AV.int IntKind.i64 t0, AV.int IntKind.i64 y0, AV.int IntKind.i64 n0, D0, K0] 0) ∧ SemCall Tryz.prog opts0.glob 90 [AV.agg [AV.int IntKind.i64 t0, AV.int IntKind.i64 y0, AV.int IntKind.i64 n0, D0, K0], AV.int IntKind.i64 4325386, AV.int IntKind.i64 7] (AV.bool r1) ∧ mtB (!r1) (Q (AV.tuple [AV.agg [AV.str [], AV.int IntKind.i64 0, AV.int IntKind.i64 0, AV.int IntKind.i64 0, AV.int IntKind.i64 0, AV.nilsl, AV.nilsl], AV.bool false]) [(1, some (Blk.cells [AV.str [], AV.int IntKind.i64 0, AV.int IntKind.i64 0, AV.int IntKind.i64 0, AV.int IntKind.i64 0, AV.nilsl, AV.nilsl])), (0, some (Blk.cells [AV.int IntKind.i64 t, AV.int IntKind.i64 y, AV.int IntKind.i64 n, D, K]))] 29) (indexAddrA Tryz.prog 35 K (AV.int IntKind.i64 0) = some (AV.fptr [AV.int IntKind.i64 t0, AV.int IntKind.i64 y0, AV.int IntKind.i64 n0, D0, K0] 0) ∧ convA Tryz.prog 23 9 D0 = some (Eff.val (AV.str s)) ∧ builtinA Tryz.prog Builtin.len { toList := [35] } [K] = some (Eff.val (AV.int IntKind.i64 (Int.ofNat k))) ∧ indexAddrA Tryz.prog 35 K (AV.int IntKind.i64 (wrapA IntKind.i64 (Int.ofNat k - 1))) = some (AV.fptr [AV.int IntKind.i64 tl, AV.int IntKind.i64 yl, AV.int IntKind.i64 nl, Dl, Kl] 0) ∧ oblB (fitsT Tryz.prog 9 (AV.str s) 1 && (fitsT Tryz.prog 37 (AV.agg [AV.int IntKind.i64 tl, AV.int IntKind.i64 yl, AV.int IntKind.i64 nl, Dl, Kl]) 5 && true)) (oblB (fitsT Tryz.prog 39 (AV.agg [AV.str s, AV.int IntKind.i64 0, AV.int IntKind.i64 tl, AV.int IntKind.i64 yl, AV.int IntKind.i64 nl, Dl, Kl]) 7) (builtinA Tryz.prog Builtin.len { toList := [35] } [K] = some (Eff.val (AV.int IntKind.i64 (Int.ofNat k))) ∧ mtB (beqInt (Int.ofNat k) 3) (indexAddrA Tryz.prog 35 K (AV.int IntKind.i64 1) = some (AV.fptr [AV.int IntKind.i64 t1, AV.int IntKind.i64 y1, AV.int IntKind.i64 n1, D1, K1] 0) ∧ SemCall Tryz.prog opts0.glob 90 [AV.agg [AV.int IntKind.i64 t1, AV.int IntKind.i64 y1, AV.int IntKind.i64 n1, D1, K1], AV.int IntKind.i64 4325385, AV.int IntKind.i64 2] (AV.bool r2) ∧ mtB (!r2) (Q (AV.tuple [AV.agg [AV.str [], AV.int IntKind.i64 0, AV.int IntKind.i64 0, AV.int IntKind.i64 0, AV.int IntKind.i64 0, AV.nilsl, AV.nilsl], AV.bool false]) [(41, some (Blk.cells [AV.str s, AV.int IntKind.i64 0, AV.int IntKind.i64 tl, AV.int IntKind.i64 yl, AV.int IntKind.i64 nl, Dl, Kl])), (1, some (Blk.cells [AV.str [], AV.int IntKind.i64 0, AV.int IntKind.i64 0, AV.int IntKind.i64 0, AV.int IntKind.i64 0, AV.nilsl, AV.nilsl])), (0, some (Blk.cells [AV.int IntKind.i64 t, AV.int IntKind.i64 y, AV.int IntKind.i64 n, D, K]))] 64) (indexAddrA Tryz.prog 35 K (AV.int IntKind.i64 1) = some (AV.fptr [AV.int IntKind.i64 t1, AV.int IntKind.i64 y1, AV.int IntKind.i64 n1, D1, K1] 0) ∧ mtB (!ltInt 0 n1) (Q (AV.tuple [AV.agg [AV.str [], AV.int IntKind.i64 0, AV.int IntKind.i64 0, AV.int IntKind.i64 0, AV.int IntKind.i64 0, AV.nilsl, AV.nilsl], AV.bool false]) [(41, some (Blk.cells [AV.str s, AV.int IntKind.i64 0, AV.int IntKind.i64 tl, AV.int IntKind.i64 yl, AV.int IntKind.i64 nl, Dl, Kl])), (1, some (Blk.cells [AV.str [], AV.int IntKind.i64 0, AV.int IntKind.i64 0, AV.int IntKind.i64 0, AV.int IntKind.i64 0, AV.nilsl, AV.nilsl])), (0, some (Blk.cells [AV.int IntKind.i64 t, AV.int IntKind.i64 y, AV.int IntKind.i64 n, D, K]))] 64) (indexAddrA Tryz.prog 35 K (AV.int IntKind.i64 1) = some (AV.fptr [AV.int IntKind.i64 t1, AV.int IntKind.i64 y1, AV.int IntKind.i64 n1, D1, K1] 0) ∧ mtB (!beqInt tl 4325387) (Q (AV.tuple [AV.agg [AV.str [], AV.int IntKind.i64 0, AV.int IntKind.i64 0, AV.int IntKind.i64 0, AV.int IntKind.i64 0, AV.nilsl, AV.nilsl], AV.bool false]) [(41, some (Blk.cells [AV.str s, AV.int IntKind.i64 n1, AV.int IntKind.i64 tl, AV.int IntKind.i64 yl, AV.int IntKind.i64 nl, Dl, Kl])), (1, some (Blk.cells [AV.str [], AV.int IntKind.i64 0, AV.int IntKind.i64 0, AV.int IntKind.i64 0, AV.int IntKind.i64 0, AV.nilsl, AV.nilsl])), (0, some (Blk.cells [AV.int IntKind.i64 t, AV.int IntKind.i64 y, AV.int IntKind.i64 n, D, K]))] 75) (oblB (fitsT Tryz.prog 39 (AV.agg [AV.str s, AV.int IntKind.i64 n1, AV.int IntKind.i64 tl, AV.int IntKind.i64 yl, AV.int IntKind.i64 nl, Dl, Kl]) 7) (Q (AV.tuple [AV.agg [AV.str s, AV.int IntKind.i64 n1, AV.int IntKind.i64 tl, AV.int IntKind.i64 yl, AV.int IntKind.i64 nl, Dl, Kl], AV.bool true]) [(41, some (Blk.cells [AV.str s, AV.int IntKind.i64 n1, AV.int IntKind.i64 tl, AV.int IntKind.i64 yl, AV.int IntKind.i64 nl, Dl, Kl])), (1, some (Blk.cells [AV.str s, AV.int IntKind.i64 n1, AV.int IntKind.i64 tl, AV.int IntKind.i64 yl, AV.int IntKind.i64 nl, Dl, Kl])), (0, some (Blk.cells [AV.int IntKind.i64 t, AV.int IntKind.i64 y, AV.int IntKind.i64 n, D, K]))] 75))))) (mtB (!beqInt tl 4325387) (Q (AV.tuple [AV.agg [AV.str [], AV.int IntKind.i64 0, AV.int IntKind.i64 0, AV.int IntKind.i64 0, AV.int IntKind.i64 0, AV.nilsl, AV.nilsl], AV.bool false]) [(41, some (Blk.cells [AV.str s, AV.int IntKind.i64 0, AV.int IntKind.i64 tl, AV.int IntKind.i64 yl, AV.int IntKind.i64 nl, Dl, Kl])), (1, some (Blk.cells [AV.str [], AV.int IntKind.i64 0, AV.int IntKind.i64 0, AV.int IntKind.i64 0, AV.int IntKind.i64 0, AV.nilsl, AV.nilsl])), (0, some (Blk.cells [AV.int IntKind.i64 t, AV.int IntKind.i64 y, AV.int IntKind.i64 n, D, K]))] 54) (oblB (fitsT Tryz.prog 39 (AV.agg [AV.str s, AV.int IntKind.i64 0, AV.int IntKind.i64 tl, AV.int IntKind.i64 yl, AV.int IntKind.i64 nl, Dl, Kl]) 7) (Q (AV.tuple [AV.agg [AV.str s, AV.int IntKind.i64 0, AV.int IntKind.i64 tl, AV.int IntKind.i64 yl, AV.int IntKind.i64 nl, Dl, Kl], AV.bool true]) [(41, some (Blk.cells [AV.str s, AV.int IntKind.i64 0, AV.int IntKind.i64 tl, AV.int IntKind.i64 yl, AV.int IntKind.i64 nl, Dl, Kl])), (1, some (Blk.cells [AV.str s, AV.int IntKind.i64 0, AV.int IntKind.i64 tl, AV.int IntKind.i64 yl, AV.int IntKind.i64 nl, Dl, Kl])), (0, some (Blk.cells [AV.int IntKind.i64 t, AV.int IntKind.i64 y, AV.int IntKind.i64 n, D, K]))] 54)))))))))) := by kernel_rfl
theorem same1_fn (s s' : List UInt8) (i i' t y n t' y' n' : Int) (D K D' K' : AV) (r : Bool) (Q : AV → Heap → Nat → Prop) : fnK Tryz.prog opts0 40 (aidJ [] [] (manyS [(35, .bool r)]) [] []) 39 [.fsl true [.agg [.str s, I i, I t, I y, I n, D, K]], .fsl true [.agg [.str s', I i', I t', I y', I n', D', K']]] [] 0 Q =
    (mtB (!beqBytes s s') (Q (AV.bool false) [] 50) (mtB (!beqInt i i') (Q (AV.bool false) [] 50) (SemCall Tryz.prog opts0.glob 35 [AV.agg [AV.int IntKind.i64 t, AV.int IntKind.i64 y, AV.int IntKind.i64 n, D, K], AV.agg [AV.int IntKind.i64 t', AV.int IntKind.i64 y', AV.int IntKind.i64 n', D', K']] (AV.bool r) ∧ mtB (!r) (Q (AV.bool false) [] 50) (Q (AV.bool true) [] 57)))) := by kernel_rfl


def tagI : It → Int
  | .mk t _ _ _ _ _ _ => t
def intI : It → Int
  | .mk _ _ n _ _ _ _ => n
def dataI : It → List UInt8
  | .mk _ _ _ _ d _ _ => d
def kidsI : It → List It
  | .mk _ _ _ _ _ _ ks => ks
/-- An item read as an attribute. -/
def readK : List It → Option At
  | [k0, v] => match shapeI k0 4325386 7 && beqInt (tagI v) 4325387 with
    | true => some ⟨dataI k0, 0, v⟩
    | false => none
  | [k0, k1, v] => match shapeI k0 4325386 7 && (beqInt (tagI v) 4325387 && (shapeI k1 4325385 2 && ltInt 0 (intI k1))) with
    | true => some ⟨dataI k0, intI k1, v⟩
    | false => none
  | _ => none
def readI (x : It) : Option At := match shapeI x 4325384 1 with
  | true => readK (kidsI x)
  | false => none
def zeroI : It := .mk 0 0 0 none [] none []
def zeroAt : At := ⟨[], 0, zeroI⟩
def atP : Option At → AV
  | some a => .tuple [atA ⟨a.name, a.idx, copyI a.v⟩, .bool true]
  | none => .tuple [atA zeroAt, .bool false]
def atR : Option At → AV
  | some a => .tuple [atA a, .bool true]
  | none => .tuple [atA zeroAt, .bool false]
theorem strT : isAggA Tryz.prog 9 = some false := by kernel_rfl
theorem attrT : isAggA Tryz.prog 39 = some true := by kernel_rfl
theorem isI_shape (x : It) (tag : Int) {kind : Int} (h : kind = 1 ∨ kind = 7 ∨ kind = 2) : isI x tag kind = shapeI x tag kind := by
  obtain ⟨t, y, n, df, d, kf, ks⟩ := x
  rcases h with rfl | rfl | rfl <;> rfl
theorem idxK {kf : Option Bool} {ks : List It} {i : Nat} {x : It} (hf : kf = none → ks = []) (hx : ks[i]? = some x) : indexAddrA Tryz.prog 35 (rowV kf (itAs ks)) (.int .i64 (.ofNat i)) = some (.fptr (itC x) 0) := by
  have h := rowV_index (P := Tryz.prog) (t := 35) (e := 37) (sz := 5) (i := i) (f := kf) (l := itAs ks) (v := itA x) (by kernel_rfl) (by kernel_rfl) (fun h => by rw [hf h]; rfl) (by rw [itAs_map, List.getElem?_map, hx]; rfl) (goodEl_it x).1
  rw [h, itA_C]
  rfl
theorem convD {f : Option Bool} {d : List UInt8} (hf : f = none → d = []) : convA Tryz.prog 23 9 (rowV f (toBytes d)) = some (.val (.str d)) := rowV_conv (e := 5) (by kernel_rfl) (by kernel_rfl) (by kernel_rfl) hf
theorem fin_read {H : Heap} {a : Option At} {v : AV} (h : v = atP a) : (∃ d, freezeA 0 H d v = some (atP a)) ∧ closedA (atP a) = true := by
  have hc : closedA (atP a) = true := by cases a <;> simp [atP, closedA, closedAll, closed_at]
  rw [h]; exact fin_closed hc
theorem fin_readr {H : Heap} {a : Option At} {v : AV} (h : v = atR a) : (∃ d, freezeA 0 H d v = some (atR a)) ∧ closedA (atR a) = true := by
  have hc : closedA (atR a) = true := by cases a <;> simp [atR, closedA, closedAll, closed_at]
  rw [h]; exact fin_closed hc

set_option maxRecDepth 20000 in
theorem read_sem {x : It} (h : okI big x) : SemCall Tryz.prog opts0.glob 37 [itA x] (atP (readI x)) := by
  have hcl := closed_it x
  obtain ⟨t, y, n, df, d, kf, ks⟩ := x
  have hs := shape_sem 4325384 1 h
  have hk := lenK h.2.1
  have hok := okIs_iff.1 h.2.2.2.2
  have hf := h.2.1
  rcases ks with _ | ⟨k0, _ | ⟨k1, _ | ⟨k2, _ | ⟨k3, r⟩⟩⟩⟩
  · refine fnK_sem (A := rdA (shapeI (.mk t y n df d kf []) 4325384 1) false false 0 [I 0, I 0, I 0, .nilsl, .nilsl] [I 0, I 0, I 0, .nilsl, .nilsl] [I 0, I 0, I 0, .nilsl, .nilsl] [] (.agg [I 0, I 0, I 0, .nilsl, .nilsl])) base0 aidJ_ok (fnLs_of (LsOk.no rfl)) (by simp [closedAll, hcl]) ?_
    simp only [itA] at hs hk ⊢
    rw [read_fn]
    refine And.intro hs (mtB_of (fun e => ?_) (fun e => And.intro hk (mtB_of (fun e2 => ?_) (fun e2 => absurd e2 (by decide)))))
    · exact fin_read (by rw [Bool.not_eq_true'] at e; simp only [readI, e]; rfl)
    · exact fin_read (by rw [Bool.not_eq_false'] at e; simp only [readI, e]; rfl)
  · refine fnK_sem (A := rdA (shapeI (.mk t y n df d kf [k0]) 4325384 1) false false 1 [I 0, I 0, I 0, .nilsl, .nilsl] [I 0, I 0, I 0, .nilsl, .nilsl] [I 0, I 0, I 0, .nilsl, .nilsl] [] (.agg [I 0, I 0, I 0, .nilsl, .nilsl])) base0 aidJ_ok (fnLs_of (LsOk.no rfl)) (by simp [closedAll, hcl]) ?_
    simp only [itA] at hs hk ⊢
    rw [read_fn]
    refine And.intro hs (mtB_of (fun e => ?_) (fun e => And.intro hk (mtB_of (fun e2 => ?_) (fun e2 => absurd e2 (by decide)))))
    · exact fin_read (by rw [Bool.not_eq_true'] at e; simp only [readI, e]; rfl)
    · exact fin_read (by rw [Bool.not_eq_false'] at e; simp only [readI, e]; rfl)
  · have h0 := hok k0 (by simp)
    have h1 := hok k1 (by simp)
    have s0 := shape_sem 4325386 7 h0
    have hi0 := idxK (i := 0) hf rfl
    have hi1 := idxK (i := 1) hf rfl
    have hcv := acop_sem h1
    have hcd := convD (f := (match k0 with | .mk _ _ _ f _ _ _ => f)) (d := dataI k0) (by cases k0; exact h0.1)
    obtain ⟨t0, y0, n0, f0, d0, g0, l0⟩ := k0
    obtain ⟨t1, y1, n1, f1, d1, g1, l1⟩ := k1
    simp only [copyI_mk] at hcv
    refine fnK_sem (A := rdA (shapeI (.mk t y n df d kf [.mk t0 y0 n0 f0 d0 g0 l0, .mk t1 y1 n1 f1 d1 g1 l1]) 4325384 1) (shapeI (.mk t0 y0 n0 f0 d0 g0 l0) 4325386 7) false 2 (itC (.mk t0 y0 n0 f0 d0 g0 l0)) [I 0, I 0, I 0, .nilsl, .nilsl] (itC (.mk t1 y1 n1 f1 d1 g1 l1)) d0 (itA (.mk t1 y1 n1 (copyDF f1 d1) d1 (copyKF l1) (copyIs l1)))) base0 aidJ_ok (fnLs_of (LsOk.no rfl)) (by simp [closedAll, hcl]) ?_
    simp only [itA, itAs, itC, dataI] at hs hk s0 hi0 hi1 hcv hcd ⊢
    rw [read_fn]
    refine And.intro hs ?_
    refine mtB_of (fun e => ?_) (fun e => ?_)
    · exact fin_read (by rw [Bool.not_eq_true'] at e; simp only [readI, e]; rfl)
    rw [Bool.not_eq_false'] at e
    refine And.intro hk ?_
    refine mtB_of (fun e2 => absurd e2 (by decide)) (fun _ => ?_)
    refine And.intro hk ?_
    refine mtB_of (fun e2 => absurd e2 (by decide)) (fun _ => ?_)
    refine And.intro hi0 ?_
    refine And.intro hk ?_
    refine And.intro hi1 ?_
    refine oblB_of (fits_agg itemT rfl (by simp [allOne])) ?_
    refine oblB_of (fits_agg itemT rfl (by simp [allOne])) ?_
    refine And.intro s0 ?_
    refine mtB_of (fun e4 => ?_) (fun e4 => ?_)
    · exact fin_read (by rw [Bool.not_eq_true'] at e4; simp only [readI, e, kidsI, readK, e4, Bool.false_and]; rfl)
    rw [Bool.not_eq_false'] at e4
    refine mtB_of (fun e5 => ?_) (fun e5 => ?_)
    · exact fin_read (by rw [Bool.not_eq_true'] at e5; simp only [readI, e, kidsI, readK, e4, tagI, e5, Bool.and_false, Bool.false_and]; rfl)
    rw [Bool.not_eq_false'] at e5
    refine And.intro hk ?_
    refine mtB_of (fun e6 => absurd e6 (by decide)) (fun _ => ?_)
    refine And.intro hcd ?_
    refine And.intro hcv ?_
    refine oblB_of (fits_agg itemT rfl (by simp [allOne])) ?_
    refine oblB_of (fits_agg attrT rfl (by simp [allOne])) ?_
    exact fin_read (by simp only [readI, e, kidsI, readK, e4, tagI, e5, Bool.and_true, atP, atA, dataI, copyI_mk, itC])
  · have h0 := hok k0 (by simp)
    have h1 := hok k1 (by simp)
    have h2 := hok k2 (by simp)
    have s0 := shape_sem 4325386 7 h0
    have s1 := shape_sem 4325385 2 h1
    have hi0 := idxK (i := 0) hf rfl
    have hi1 := idxK (i := 1) hf rfl
    have hi2 := idxK (i := 2) hf rfl
    have hcv := acop_sem h2
    have hcd := convD (f := (match k0 with | .mk _ _ _ f _ _ _ => f)) (d := dataI k0) (by cases k0; exact h0.1)
    obtain ⟨t0, y0, n0, f0, d0, g0, l0⟩ := k0
    obtain ⟨t1, y1, n1, f1, d1, g1, l1⟩ := k1
    obtain ⟨t2, y2, n2, f2, d2, g2, l2⟩ := k2
    simp only [copyI_mk] at hcv
    refine fnK_sem (A := rdA (shapeI (.mk t y n df d kf [.mk t0 y0 n0 f0 d0 g0 l0, .mk t1 y1 n1 f1 d1 g1 l1, .mk t2 y2 n2 f2 d2 g2 l2]) 4325384 1) (shapeI (.mk t0 y0 n0 f0 d0 g0 l0) 4325386 7) (shapeI (.mk t1 y1 n1 f1 d1 g1 l1) 4325385 2) 3 (itC (.mk t0 y0 n0 f0 d0 g0 l0)) (itC (.mk t1 y1 n1 f1 d1 g1 l1)) (itC (.mk t2 y2 n2 f2 d2 g2 l2)) d0 (itA (.mk t2 y2 n2 (copyDF f2 d2) d2 (copyKF l2) (copyIs l2)))) base0 aidJ_ok (fnLs_of (LsOk.no rfl)) (by simp [closedAll, hcl]) ?_
    simp only [itA, itAs, itC, dataI] at hs hk s0 s1 hi0 hi1 hi2 hcv hcd ⊢
    rw [read_fn]
    refine And.intro hs ?_
    refine mtB_of (fun e => ?_) (fun e => ?_)
    · exact fin_read (by rw [Bool.not_eq_true'] at e; simp only [readI, e]; rfl)
    rw [Bool.not_eq_false'] at e
    refine And.intro hk ?_
    refine mtB_of (fun e2 => absurd e2 (by decide)) (fun _ => ?_)
    refine And.intro hk ?_
    refine mtB_of (fun e2 => absurd e2 (by decide)) (fun _ => ?_)
    refine And.intro hi0 ?_
    refine And.intro hk ?_
    refine And.intro hi2 ?_
    refine oblB_of (fits_agg itemT rfl (by simp [allOne])) ?_
    refine oblB_of (fits_agg itemT rfl (by simp [allOne])) ?_
    refine And.intro s0 ?_
    refine mtB_of (fun e4 => ?_) (fun e4 => ?_)
    · exact fin_read (by rw [Bool.not_eq_true'] at e4; simp only [readI, e, kidsI, readK, e4, Bool.false_and]; rfl)
    rw [Bool.not_eq_false'] at e4
    refine mtB_of (fun e5 => ?_) (fun e5 => ?_)
    · exact fin_read (by rw [Bool.not_eq_true'] at e5; simp only [readI, e, kidsI, readK, e4, tagI, e5, Bool.and_false, Bool.false_and]; rfl)
    rw [Bool.not_eq_false'] at e5
    refine And.intro hk ?_
    refine mtB_of (fun _ => ?_) (fun e6 => absurd e6 (by decide))
    refine And.intro hi1 ?_
    refine oblB_of (fits_agg itemT rfl (by simp [allOne])) ?_
    refine And.intro s1 ?_
    refine mtB_of (fun e7 => ?_) (fun e7 => ?_)
    · exact fin_read (by rw [Bool.not_eq_true'] at e7; simp only [readI, e, kidsI, readK, e4, tagI, e5, e7, Bool.and_false, Bool.false_and]; rfl)
    rw [Bool.not_eq_false'] at e7
    refine mtB_of (fun e8 => ?_) (fun e8 => ?_)
    · exact fin_read (by rw [Bool.not_eq_true'] at e8; simp only [readI, e, kidsI, readK, e4, tagI, e5, e7, intI, e8, Bool.and_false]; rfl)
    rw [Bool.not_eq_false'] at e8
    refine And.intro hcd ?_
    refine And.intro hcv ?_
    refine oblB_of (fits_agg itemT rfl (by simp [allOne])) ?_
    refine oblB_of (fits_agg attrT rfl (by simp [allOne])) ?_
    exact fin_read (by simp only [readI, e, kidsI, readK, e4, tagI, e5, e7, intI, e8, Bool.and_true, atP, atA, dataI, copyI_mk, itC])
  · refine fnK_sem (A := rdA (shapeI (.mk t y n df d kf (k0 :: k1 :: k2 :: k3 :: r)) 4325384 1) false false (k0 :: k1 :: k2 :: k3 :: r).length [I 0, I 0, I 0, .nilsl, .nilsl] [I 0, I 0, I 0, .nilsl, .nilsl] [I 0, I 0, I 0, .nilsl, .nilsl] [] (.agg [I 0, I 0, I 0, .nilsl, .nilsl])) base0 aidJ_ok (fnLs_of (LsOk.no rfl)) (by simp [closedAll, hcl]) ?_
    simp only [itA] at hs hk ⊢
    rw [read_fn]
    refine And.intro hs (mtB_of (fun e => ?_) (fun e => And.intro hk (mtB_of (fun e2 => ?_) (fun _ => And.intro hk (mtB_of (fun e3 => ?_) (fun e3 => ?_))))))
    · exact fin_read (by rw [Bool.not_eq_true'] at e; simp only [readI, e]; rfl)
    · exact fin_read (by rw [Bool.not_eq_false'] at e; simp only [readI, e]; rfl)
    · exact fin_read (by rw [Bool.not_eq_false'] at e; simp only [readI, e]; rfl)
    · have e3 := ltInt_false.1 e3
      simp only [List.length_cons, Int.ofNat_eq_natCast] at e3
      omega

set_option maxRecDepth 20000 in
theorem readr_sem {x : It} (h : okI big x) : SemCall Tryz.prog opts0.glob 38 [itA x] (atR (readI x)) := by
  have hcl := closed_it x
  obtain ⟨t, y, n, df, d, kf, ks⟩ := x
  have hs := is_sem 4325384 1 h
  rw [isI_shape _ _ (.inl rfl)] at hs
  have hk := lenK h.2.1
  have hok := okIs_iff.1 h.2.2.2.2
  have hf := h.2.1
  rcases ks with _ | ⟨k0, _ | ⟨k1, _ | ⟨k2, _ | ⟨k3, r⟩⟩⟩⟩
  · refine fnK_sem (A := rrA (shapeI (.mk t y n df d kf []) 4325384 1) false false 0 [I 0, I 0, I 0, .nilsl, .nilsl] [I 0, I 0, I 0, .nilsl, .nilsl] [I 0, I 0, I 0, .nilsl, .nilsl] []) base0 aidJ_ok (fnLs_of (LsOk.no rfl)) (by simp [closedAll, hcl]) ?_
    simp only [itA] at hs hk ⊢
    rw [readr_fn]
    refine And.intro hs ?_
    refine mtB_of (fun e => ?_) (fun e => ?_)
    · exact fin_readr (by rw [Bool.not_eq_true'] at e; simp only [readI, e]; rfl)
    rw [Bool.not_eq_false'] at e
    refine And.intro hk ?_
    refine mtB_of (fun e2 => ?_) (fun e2 => absurd e2 (by decide))
    exact fin_readr (by simp only [readI, e]; rfl)
  · refine fnK_sem (A := rrA (shapeI (.mk t y n df d kf [k0]) 4325384 1) false false 1 [I 0, I 0, I 0, .nilsl, .nilsl] [I 0, I 0, I 0, .nilsl, .nilsl] [I 0, I 0, I 0, .nilsl, .nilsl] []) base0 aidJ_ok (fnLs_of (LsOk.no rfl)) (by simp [closedAll, hcl]) ?_
    simp only [itA] at hs hk ⊢
    rw [readr_fn]
    refine And.intro hs ?_
    refine mtB_of (fun e => ?_) (fun e => ?_)
    · exact fin_readr (by rw [Bool.not_eq_true'] at e; simp only [readI, e]; rfl)
    rw [Bool.not_eq_false'] at e
    refine And.intro hk ?_
    refine mtB_of (fun e2 => ?_) (fun e2 => absurd e2 (by decide))
    exact fin_readr (by simp only [readI, e]; rfl)
  · have h0 := hok k0 (by simp)
    have h1 := hok k1 (by simp)
    have s0 := is_sem 4325386 7 h0
    rw [isI_shape _ _ (.inr (.inl rfl))] at s0
    have hi0 := idxK (i := 0) hf rfl
    have hi1 := idxK (i := 1) hf rfl
    have hcd := convD (f := (match k0 with | .mk _ _ _ f _ _ _ => f)) (d := dataI k0) (by cases k0; exact h0.1)
    obtain ⟨t0, y0, n0, f0, d0, g0, l0⟩ := k0
    obtain ⟨t1, y1, n1, f1, d1, g1, l1⟩ := k1
    refine fnK_sem (A := rrA (shapeI (.mk t y n df d kf [.mk t0 y0 n0 f0 d0 g0 l0, .mk t1 y1 n1 f1 d1 g1 l1]) 4325384 1) (shapeI (.mk t0 y0 n0 f0 d0 g0 l0) 4325386 7) false 2 (itC (.mk t0 y0 n0 f0 d0 g0 l0)) [I 0, I 0, I 0, .nilsl, .nilsl] (itC (.mk t1 y1 n1 f1 d1 g1 l1)) d0) base0 aidJ_ok (fnLs_of (LsOk.no rfl)) (by simp [closedAll, hcl]) ?_
    simp only [itA, itAs, itC, dataI] at hs hk s0 hi0 hi1 hcd ⊢
    rw [readr_fn]
    refine And.intro hs ?_
    refine mtB_of (fun e => ?_) (fun e => ?_)
    · exact fin_readr (by rw [Bool.not_eq_true'] at e; simp only [readI, e]; rfl)
    rw [Bool.not_eq_false'] at e
    refine And.intro hk ?_
    refine mtB_of (fun e2 => absurd e2 (by decide)) (fun _ => ?_)
    refine And.intro hk ?_
    refine mtB_of (fun e2 => absurd e2 (by decide)) (fun _ => ?_)
    refine And.intro hi0 ?_
    refine And.intro s0 ?_
    refine mtB_of (fun e4 => ?_) (fun e4 => ?_)
    · exact fin_readr (by rw [Bool.not_eq_true'] at e4; simp only [readI, e, kidsI, readK, e4, Bool.false_and]; rfl)
    rw [Bool.not_eq_false'] at e4
    refine And.intro hi0 ?_
    refine And.intro hcd ?_
    refine And.intro hk ?_
    refine And.intro hi1 ?_
    refine oblB_of (by rw [fits_one strT rfl, fits_agg itemT rfl (by simp [allOne])]; rfl) ?_
    refine oblB_of (fits_agg attrT rfl (by simp [allOne])) ?_
    refine And.intro hk ?_
    refine mtB_of (fun e6 => absurd e6 (by decide)) (fun _ => ?_)
    refine mtB_of (fun e5 => ?_) (fun e5 => ?_)
    · exact fin_readr (by rw [Bool.not_eq_true'] at e5; simp only [readI, e, kidsI, readK, e4, tagI, e5, Bool.and_false]; rfl)
    rw [Bool.not_eq_false'] at e5
    refine oblB_of (fits_agg attrT rfl (by simp [allOne])) ?_
    exact fin_readr (by simp only [readI, e, kidsI, readK, e4, tagI, e5, Bool.and_true, atR, atA, dataI, itC])
  · have h0 := hok k0 (by simp)
    have h1 := hok k1 (by simp)
    have h2 := hok k2 (by simp)
    have s0 := is_sem 4325386 7 h0
    rw [isI_shape _ _ (.inr (.inl rfl))] at s0
    have s1 := is_sem 4325385 2 h1
    rw [isI_shape _ _ (.inr (.inr rfl))] at s1
    have hi0 := idxK (i := 0) hf rfl
    have hi1 := idxK (i := 1) hf rfl
    have hi2 := idxK (i := 2) hf rfl
    have hcd := convD (f := (match k0 with | .mk _ _ _ f _ _ _ => f)) (d := dataI k0) (by cases k0; exact h0.1)
    obtain ⟨t0, y0, n0, f0, d0, g0, l0⟩ := k0
    obtain ⟨t1, y1, n1, f1, d1, g1, l1⟩ := k1
    obtain ⟨t2, y2, n2, f2, d2, g2, l2⟩ := k2
    refine fnK_sem (A := rrA (shapeI (.mk t y n df d kf [.mk t0 y0 n0 f0 d0 g0 l0, .mk t1 y1 n1 f1 d1 g1 l1, .mk t2 y2 n2 f2 d2 g2 l2]) 4325384 1) (shapeI (.mk t0 y0 n0 f0 d0 g0 l0) 4325386 7) (shapeI (.mk t1 y1 n1 f1 d1 g1 l1) 4325385 2) 3 (itC (.mk t0 y0 n0 f0 d0 g0 l0)) (itC (.mk t1 y1 n1 f1 d1 g1 l1)) (itC (.mk t2 y2 n2 f2 d2 g2 l2)) d0) base0 aidJ_ok (fnLs_of (LsOk.no rfl)) (by simp [closedAll, hcl]) ?_
    simp only [itA, itAs, itC, dataI] at hs hk s0 s1 hi0 hi1 hi2 hcd ⊢
    rw [readr_fn]
    refine And.intro hs ?_
    refine mtB_of (fun e => ?_) (fun e => ?_)
    · exact fin_readr (by rw [Bool.not_eq_true'] at e; simp only [readI, e]; rfl)
    rw [Bool.not_eq_false'] at e
    refine And.intro hk ?_
    refine mtB_of (fun e2 => absurd e2 (by decide)) (fun _ => ?_)
    refine And.intro hk ?_
    refine mtB_of (fun e2 => absurd e2 (by decide)) (fun _ => ?_)
    refine And.intro hi0 ?_
    refine And.intro s0 ?_
    refine mtB_of (fun e4 => ?_) (fun e4 => ?_)
    · exact fin_readr (by rw [Bool.not_eq_true'] at e4; simp only [readI, e, kidsI, readK, e4, Bool.false_and]; rfl)
    rw [Bool.not_eq_false'] at e4
    refine And.intro hi0 ?_
    refine And.intro hcd ?_
    refine And.intro hk ?_
    refine And.intro hi2 ?_
    refine oblB_of (by rw [fits_one strT rfl, fits_agg itemT rfl (by simp [allOne])]; rfl) ?_
    refine oblB_of (fits_agg attrT rfl (by simp [allOne])) ?_
    refine And.intro hk ?_
    refine mtB_of (fun _ => ?_) (fun e6 => absurd e6 (by decide))
    refine And.intro hi1 ?_
    refine And.intro s1 ?_
    refine mtB_of (fun e7 => ?_) (fun e7 => ?_)
    · exact fin_readr (by rw [Bool.not_eq_true'] at e7; simp only [readI, e, kidsI, readK, e4, e7, Bool.and_false, Bool.false_and]; rfl)
    rw [Bool.not_eq_false'] at e7
    refine And.intro hi1 ?_
    refine mtB_of (fun e8 => ?_) (fun e8 => ?_)
    · exact fin_readr (by rw [Bool.not_eq_true'] at e8; simp only [readI, e, kidsI, readK, e4, e7, intI, e8, Bool.and_false]; rfl)
    rw [Bool.not_eq_false'] at e8
    refine And.intro hi1 ?_
    refine mtB_of (fun e5 => ?_) (fun e5 => ?_)
    · exact fin_readr (by rw [Bool.not_eq_true'] at e5; simp only [readI, e, kidsI, readK, e4, tagI, e5, Bool.and_false, Bool.false_and]; rfl)
    rw [Bool.not_eq_false'] at e5
    refine oblB_of (fits_agg attrT rfl (by simp [allOne])) ?_
    exact fin_readr (by simp only [readI, e, kidsI, readK, e4, tagI, e5, e7, intI, e8, Bool.and_true, atR, atA, dataI, itC])
  · refine fnK_sem (A := rrA (shapeI (.mk t y n df d kf (k0 :: k1 :: k2 :: k3 :: r)) 4325384 1) false false (k0 :: k1 :: k2 :: k3 :: r).length [I 0, I 0, I 0, .nilsl, .nilsl] [I 0, I 0, I 0, .nilsl, .nilsl] [I 0, I 0, I 0, .nilsl, .nilsl] []) base0 aidJ_ok (fnLs_of (LsOk.no rfl)) (by simp [closedAll, hcl]) ?_
    simp only [itA] at hs hk ⊢
    rw [readr_fn]
    refine And.intro hs ?_
    refine mtB_of (fun e => ?_) (fun e => ?_)
    · exact fin_readr (by rw [Bool.not_eq_true'] at e; simp only [readI, e]; rfl)
    rw [Bool.not_eq_false'] at e
    refine And.intro hk ?_
    refine mtB_of (fun e2 => ?_) (fun _ => ?_)
    · exact fin_readr (by simp only [readI, e]; rfl)
    refine And.intro hk ?_
    refine mtB_of (fun e3 => ?_) (fun e3 => ?_)
    · exact fin_readr (by simp only [readI, e]; rfl)
    · have e3 := ltInt_false.1 e3
      simp only [List.length_cons, Int.ofNat_eq_natCast] at e3
      omega

/-- Are two attributes the same? -/
def sameAt (a b : At) : Bool := beqBytes a.name b.name && (beqInt a.idx b.idx && sameI a.v b.v)
set_option maxRecDepth 20000 in
theorem same1_sem {a b : At} (h : okI big a.v) (h' : okI big b.v) : SemCall Tryz.prog opts0.glob 39 [.fsl true [atA a], .fsl true [atA b]] (.bool (sameAt a b)) := by
  have hs := same_sem a.v b.v h h'
  have c1 := closed_at a
  have c2 := closed_at b
  obtain ⟨s, i, x⟩ := a
  obtain ⟨s', i', z⟩ := b
  simp only at hs
  simp only [sameAt]
  revert hs
  generalize hr : sameI x z = r
  intro hs
  obtain ⟨t, y, n, df, d, kf, ks⟩ := x
  obtain ⟨t', y', n', df', d', kf', ks'⟩ := z
  refine fnK_sem (A := aidJ [] [] (manyS [(35, .bool r)]) [] []) base0 aidJ_ok (fnLs_of (LsOk.no rfl)) (by simp [closedAll, closedA, c1, c2]) ?_
  simp only [itA] at hs
  simp only [atA, itC]
  rw [same1_fn]
  refine mtB_of (fun e => ?_) (fun e => mtB_of (fun e2 => ?_) (fun e2 => And.intro hs (mtB_of (fun e3 => ?_) (fun e3 => ?_))))
  all_goals exact fin_bool (by simp_all)

end Go.Proofs.YtjhggnebkfpgcaaGreatDoor
