/- Set, Add, Modify, Delete, over rows whose closures are open. -/
import Derived.Test.YtjhggnebkfpgcaaGreatDoorMore
import Derived.KernelRfl
namespace Go.Proofs.YtjhggnebkfpgcaaGreatDoor
open Go Go.RowKit
open Go.Proofs.Abs
def fiT (W : List AV) : AV := .tuple [.agg W, .bool true]
noncomputable def adA (fi la : AV) (may : Bool) : SemT := fun _ args _ _ => match args with
 | .str _ :: _ => some (.val fi)
 | .agg a :: rest => match Nat.beq (lenN a) 12 with
  | true => some (.val la)
  | false => match rest with
   | [] => some (.val (.bool may))
   | _ => none
 | _ => none
theorem add_none (o : Ob) (M N L C : AV) (an : List UInt8) (i t y n : Int) (Da Ks : List AV) (now : Int) (Q : AV → Prop) : fnK Tryz.prog opts0 40 (aidJ [] [] (adA (rowO none) .nilsl true) [] []) 24 [.agg (obF o M N L C), .agg (.str an :: I i :: itF t y n Da Ks), I now] [] 0 (fun v _ _ => Q v) =
  (SC 61 [AV.str an] (AV.tuple [AV.agg [AV.str [], I 0, AV.bool false, AV.bool false, AV.nilFunc, AV.nilFunc, AV.nilFunc, AV.nilFunc, AV.nilFunc, AV.nilFunc, AV.nilFunc, AV.nilFunc], AV.bool false]) ∧ Q (AV.tuple [AV.agg zL, I 7])) := by kernel_rfl
theorem add_nil (h : RowH) (A2 A3 G R P D RM : AV) (o : Ob) (M N L C : AV) (an : List UInt8) (i t y n : Int) (Da Ks : List AV) (now : Int) (Q : AV → Prop) : fnK Tryz.prog opts0 40 (aidJ [] [] (adA (fiT (rowW h .nilFunc A2 A3 G R P D RM)) .nilsl true) [] []) 24 [.agg (obF o M N L C), .agg (.str an :: I i :: itF t y n Da Ks), I now] [] 0 (fun v _ _ => Q v) =
  (SC 61 [AV.str an] (AV.tuple [AV.agg [AV.str h.1, I h.2, AV.bool h.3, AV.bool h.4, AV.nilFunc, A2, A3, G, R, P, D, RM], AV.bool true]) ∧ oblB (fitsT Tryz.prog 89 (AV.agg [AV.str h.1, I h.2, AV.bool h.3, AV.bool h.4, AV.nilFunc, A2, A3, G, R, P, D, RM]) 12) (Q (AV.tuple [AV.agg zL, I 7]))) := by kernel_rfl
theorem add_fn (h : RowH) (A2 A3 G R P D RM : AV) (af : Nat) (o o' : Ob) (M N L C M' N' L' C' : AV) (an : List UInt8) (i t y n : Int) (Da Ks : List AV) (now e : Int) (may : Bool) (Q : AV → Prop) : fnK Tryz.prog opts0 40 (aidJ [] [] (adA (fiT (rowW h (fnA af) A2 A3 G R P D RM)) (.tuple [.agg (obF o' M' N' L' C'), I e]) may) [70, 71] []) 24 [.agg (obF o M N L C), .agg (.str an :: I i :: itF t y n Da Ks), I now] [] 0 (fun v _ _ => Q v) =
  (SC 61 [AV.str an] (AV.tuple [AV.agg [AV.str h.1, I h.2, AV.bool h.3, AV.bool h.4, AV.func (Fn.func af) [] [], A2, A3, G, R, P, D, RM], AV.bool true]) ∧ oblB (fitsT Tryz.prog 89 (AV.agg [AV.str h.1, I h.2, AV.bool h.3, AV.bool h.4, AV.func (Fn.func af) [] [], A2, A3, G, R, P, D, RM]) 12) (SC af [AV.agg (obF o M N L C)] (AV.bool may) ∧ mtB o.27 (Q (AV.tuple [AV.agg zL, I 13])) (mtB (!may) (Q (AV.tuple [AV.agg zL, I 11])) (SC 62 [AV.agg [AV.str h.1, I h.2, AV.bool h.3, AV.bool h.4, AV.func (Fn.func af) [] [], A2, A3, G, R, P, D, RM], AV.agg (obF o M N L C), AV.agg [AV.str an, I i, I t, I y, I n, AV.fsl false Da, AV.fsl false Ks]] (AV.tuple [AV.agg (obF o' M' N' L' C'), I e]) ∧ oblB (fitsT Tryz.prog 33 (AV.agg (obF o' M' N' L' C')) 37) (mtB (!beqInt e 0) (Q (AV.tuple [AV.agg zL, I e])) (oblB (fitsT Tryz.prog 33 (AV.agg (obF { o' with d9 := ⟨true, now⟩ } M' N' L' C')) 37) (oblB (fitsT Tryz.prog 33 (AV.agg (obF { o' with d9 := ⟨true, now⟩ } M' N' L' C')) 37) (Q (AV.tuple [AV.agg (obF { o' with d9 := ⟨true, now⟩ } M' N' L' C'), I 0]))))))))) := by kernel_rfl
noncomputable def deA (fi : AV) (G : List AV) (may : Bool) (O O' : List AV) : SemT := fun _ args _ nx => match args with
 | .str _ :: _ => some (.val fi)
 | .ptr b _ :: _ => some (.part [b] (.tuple []) [(b, some (.cells O'))] 100)
 | .agg _ :: rest => match Nat.ble nx 24 with
  | true => some (.val (.fsl false G))
  | false => match rest with
   | [] => match Nat.ble nx 44 with
    | true => some (.val (.bool may))
    | false => some (.val (.agg O))
   | _ => none
 | _ => none
theorem del_none (o : Ob) (M N L C : AV) (an : List UInt8) (i now : Int) (Q : AV → Prop) : fnK Tryz.prog opts0 40 (aidJ [] [] (adA (rowO none) .nilsl true) [] []) 30 [.agg (obF o M N L C), .str an, I i, I now] [] 0 (fun v _ _ => Q v) =
  (SC 61 [AV.str an] (AV.tuple [AV.agg [AV.str [], I 0, AV.bool false, AV.bool false, AV.nilFunc, AV.nilFunc, AV.nilFunc, AV.nilFunc, AV.nilFunc, AV.nilFunc, AV.nilFunc, AV.nilFunc], AV.bool false]) ∧ Q (AV.tuple [AV.agg zL, I 7])) := by kernel_rfl
theorem del_nil (h : RowH) (A1 A2 G R P D RM : AV) (o : Ob) (M N L C : AV) (an : List UInt8) (i now : Int) (Q : AV → Prop) : fnK Tryz.prog opts0 40 (aidJ [] [] (adA (fiT (rowW h A1 A2 .nilFunc G R P D RM)) .nilsl true) [] []) 30 [.agg (obF o M N L C), .str an, I i, I now] [] 0 (fun v _ _ => Q v) =
  (SC 61 [AV.str an] (AV.tuple [AV.agg [AV.str h.1, I h.2, AV.bool h.3, AV.bool h.4, A1, A2, AV.nilFunc, G, R, P, D, RM], AV.bool true]) ∧ oblB (fitsT Tryz.prog 89 (AV.agg [AV.str h.1, I h.2, AV.bool h.3, AV.bool h.4, A1, A2, AV.nilFunc, G, R, P, D, RM]) 12) (Q (AV.tuple [AV.agg zL, I 7]))) := by kernel_rfl
theorem del_fn (h : RowH) (A1 A2 R P RM : AV) (gf : Nat) (gc : List AV) (df : Nat) (dc : List AV) (mf : Nat) (o o' : Ob) (M N L C M' N' L' C' : AV) (an : List UInt8) (i now : Int) (G : List AV) (may : Bool) (Q : AV → Prop) : fnK Tryz.prog opts0 40 (aidJ [] [] (deA (fiT (rowW h A1 A2 (fnA mf) (fnC gf gc) R P (fnC df dc) RM)) G may (obF o M N L C) (obF o' M' N' L' C')) [70, 71] []) 30 [.agg (obF o M N L C), .str an, I i, I now] [] 0 (fun v _ _ => Q v) =
  (SC 61 [AV.str an] (AV.tuple [AV.agg [AV.str h.1, I h.2, AV.bool h.3, AV.bool h.4, A1, A2, AV.func (Fn.func mf) [] [], AV.func (Fn.func gf) [] gc, R, P, AV.func (Fn.func df) [] dc, RM], AV.bool true]) ∧ oblB (fitsT Tryz.prog 89 (AV.agg [AV.str h.1, I h.2, AV.bool h.3, AV.bool h.4, A1, A2, AV.func (Fn.func mf) [] [], AV.func (Fn.func gf) [] gc, R, P, AV.func (Fn.func df) [] dc, RM]) 12) (SC gf (AV.agg (obF o M N L C) :: gc) (AV.fsl false G) ∧ mtB (ltInt i 0) (SC mf [AV.agg (obF o M N L C)] (AV.bool may) ∧ mtB o.27 (Q (AV.tuple [AV.agg zL, I 13])) (Q (AV.tuple [AV.agg zL, I 1]))) (SC mf [AV.agg (obF o M N L C)] (AV.bool may) ∧ mtB o.27 (Q (AV.tuple [AV.agg zL, I 13])) (mtB (!ltInt i (Int.ofNat (lenN G))) (Q (AV.tuple [AV.agg zL, I 1])) (mtB (!may) (Q (AV.tuple [AV.agg zL, I 11])) (SC 82 [AV.agg (obF o M N L C)] (AV.agg (obF o M N L C)) ∧ oblB (fitsT Tryz.prog 33 (AV.agg (obF o M N L C)) 37) (BodySem Tryz.prog opts0.glob df (AV.ptr 0 0 :: I i :: dc) [(0, some (Blk.cells (obF o M N L C)))] 86 (AV.tuple []) [(0, some (Blk.cells (obF o' M' N' L' C')))] 186 ∧ oblB (fitsT Tryz.prog 33 (AV.agg (obF { o' with d9 := ⟨true, now⟩ } M' N' L' C')) 37) (oblB (fitsT Tryz.prog 33 (AV.agg (obF { o' with d9 := ⟨true, now⟩ } M' N' L' C')) 37) (Q (AV.tuple [AV.agg (obF { o' with d9 := ⟨true, now⟩ } M' N' L' C'), I 0])))))))))) := by kernel_rfl
end Go.Proofs.YtjhggnebkfpgcaaGreatDoor
