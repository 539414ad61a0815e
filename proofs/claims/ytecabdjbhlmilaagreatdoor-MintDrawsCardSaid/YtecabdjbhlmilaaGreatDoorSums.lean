/- What is known of the sum of bytes and of new disks, as a table. -/
import Derived.Test.YtecabdjbhlmilaaGreatDoorCrc
import Derived.Test.YtecabdjbhlmilaaGreatDoorDisk
import Derived.Test.YtecabdjbhlmilaaGreatDoorG5
namespace Go.Proofs.YtecabdjbhlmilaaGreatDoor
open Go Go.RowKit
open Go.Proofs.Abs

def sumCrc (s : Nat) : AV → Option AV
  | .nilsl => some (.int .u32 (.ofNat (moreN s [])))
  | .fsl _ es => match bytesOf es with
    | some l => match sameL (toBytes l) es && Nat.ble (lenN l) 9223372036854775807 with
      | true => some (.int .u32 (.ofNat (moreN s l)))
      | false => none
    | none => none
  | _ => none
theorem sumCrc_ok {s : Nat} {a r : AV} (hs : s < 2 ^ 32) (h : sumCrc s a = some r) : SemCall Tryz.prog opts0.glob 386 [.int .u32 (.ofNat s), a] r := by
  unfold sumCrc at h
  split at h
  · simp only [Option.some.injEq] at h; subst h
    exact crc_sem_nil hs
  · rename_i f es
    split at h
    · rename_i l hl
      split at h
      · rename_i hb
        simp only [Option.some.injEq] at h; subst h
        rw [Bool.and_eq_true] at hb
        have e := sameL_eq _ _ hb.1
        rw [← e]
        exact crc_sem hs (by rw [← lenN_eq]; exact Nat.le_of_ble_eq_true hb.2)
      · cases h
    · cases h
  · cases h
def sumS (f : FuncId) (args : List AV) : Option AV := match Nat.beq f 386, args with
  | true, [.int .u32 (.ofNat s), a] => match Nat.blt s 4294967296 with
    | true => sumCrc s a
    | false => none
  | _, _ => none
theorem sumS_ok : ∀ f args r, closedAll args = true → sumS f args = some r → SemCall Tryz.prog opts0.glob f args r := by
  intro f args r hcl h
  clear hcl
  unfold sumS at h
  split at h
  · rename_i s a hf
    split at h
    · rename_i hb
      rw [beq_iff.1 hf]
      exact sumCrc_ok (blt_iff.1 hb) h
    · cases h
  · cases h
def diskT (f : FuncId) (args : List AV) (nx : Nat) : Option (AV × Heap × Nat) := match Nat.beq f 32, args with
  | true, [.int .i64 (.ofNat n)] => match Nat.ble 8 n && Nat.ble n 4096 with
    | true => some (.tuple [.ptr nx 0, I 0], dskA nx n, 6)
    | false => none
  | _, _ => none
theorem diskT_ok : ∀ f args nx v H2 m, diskT f args nx = some (v, H2, m) → BodySem Tryz.prog opts0.glob f args [] nx v H2 (nx + m) := by
  intro f args nx v H2 m h
  unfold diskT at h
  split at h
  · rename_i n hf
    split at h
    · rename_i hb
      rw [Bool.and_eq_true] at hb
      simp only [Option.some.injEq, Prod.mk.injEq] at h
      obtain ⟨rfl, rfl, rfl⟩ := h
      rw [beq_iff.1 hf]
      exact dsk_at_nx nx n (Nat.le_of_ble_eq_true hb.1) (Nat.le_of_ble_eq_true hb.2)
    · cases h
  · cases h
def knownCx : Caller := ifC (fun f => Nat.beq f 32) (allocC diskT) (lookC sumS)
theorem knownCx_ok : CallOk Tryz.prog opts0.glob knownCx ∧ CallLoc knownCx := ifC_ok (allocC_ok diskT_ok) (lookC_ok base0.glob sumS_ok)
end Go.Proofs.YtecabdjbhlmilaaGreatDoor
