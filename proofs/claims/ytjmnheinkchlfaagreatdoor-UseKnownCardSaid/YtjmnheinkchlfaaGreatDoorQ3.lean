import Derived.Test.YtjmnheinkchlfaaGreatDoorQ2
import Derived.Test.YtjmnheinkchlfaaGreatDoorG5
import Derived.KernelRfl
namespace Go.Proofs.YtjmnheinkchlfaaGreatDoor
open Go.RowKit
open Go.Proofs.Abs
def wi:List Nat:=[99,124,119,123,242,107,111,197,48,1,103,43,254,215,171,118,202,130,201,125,250,89,71,240,173,212,162,175,156,164,114,192,183,253,147,38,54,63,247,204,52,165,229,241,113,216,49,21,4,199,35,195,24,150,5,154,7,18,128,226,235,39,178,117,9,131,44,26,27,110,90,160,82,59,214,179,41,227,47,132,83,209,0,237,32,252,177,91,106,203,190,57,74,76,88,207,208,239,170,251,67,77,51,133,69,249,2,127,80,60,159,168,81,163,64,143,146,157,56,245,188,182,218,33,16,255,243,210,205,12,19,236,95,151,68,23,196,167,126,61,100,93,25,115,96,129,79,220,34,42,144,136,70,238,184,20,222,94,11,219,224,50,58,10,73,6,36,92,194,211,172,98,145,149,228,121,231,200,55,109,141,213,78,169,108,86,244,234,101,122,174,8,186,120,37,46,28,166,180,198,232,221,116,31,75,189,139,138,112,62,181,102,72,3,246,14,97,53,87,185,134,193,29,158,225,248,152,17,105,217,142,148,155,30,135,233,206,85,40,223,140,161,137,13,191,230,66,104,65,153,45,15,176,84,187,22]
def jW (x:Nat):Nat:=(aU wi x).getD 0
def jX (f:FuncId) (args:List AV):Option AV:=match Nat.beq f 392 with
 | true=>match args with
  |[.int .u8 (.ofNat a),.int .u8 (.ofNat b)]=>match Nat.blt a 256&&Nat.blt b 256 with
   |true=>some (.int .u8 (.ofNat (fm 8 a b 0)))
   |false=>none
  |_=>none
 |false=>none
theorem rH:∀f args v,jX f args=some v→SemCall Tryz.prog optsH.glob f args v:=by
 intro f args v h
 unfold jX at h
 split at h
 ·rename_i hf
  split at h
  ·split at h
   ·rename_i hb
    rw[Bool.and_eq_true] at hb
    simp only[Option.some.injEq] at h
    subst h
    rw[beq_iff.1 hf]
    exact vK (blt_iff.1 hb.1) (blt_iff.1 hb.2)
   ·cases h
  ·cases h
 ·cases h
noncomputable def optsT:al:={how:=fun _=> .pure,summ:=jX,glob:=fun _=>none,lf:=100000}
def dR (i:Nat) (r:Nat→AV→Bool):Bool:=(List.range 32).all fun j=>r (32*i+j) (.int .u8 (.ofNat (jW (32*i+j))))
theorem wj:dR 0 (fun x r=>bn Tryz.prog optsT 40 391 [.int .u8 (.ofNat x)] r)=true:=by kernel_rfl
theorem wl:dR 1 (fun x r=>bn Tryz.prog optsT 40 391 [.int .u8 (.ofNat x)] r)=true:=by kernel_rfl
theorem wm:dR 2 (fun x r=>bn Tryz.prog optsT 40 391 [.int .u8 (.ofNat x)] r)=true:=by kernel_rfl
theorem wn:dR 3 (fun x r=>bn Tryz.prog optsT 40 391 [.int .u8 (.ofNat x)] r)=true:=by kernel_rfl
theorem wo:dR 4 (fun x r=>bn Tryz.prog optsT 40 391 [.int .u8 (.ofNat x)] r)=true:=by kernel_rfl
theorem wq:dR 5 (fun x r=>bn Tryz.prog optsT 40 391 [.int .u8 (.ofNat x)] r)=true:=by kernel_rfl
theorem wr:dR 6 (fun x r=>bn Tryz.prog optsT 40 391 [.int .u8 (.ofNat x)] r)=true:=by kernel_rfl
theorem ws:dR 7 (fun x r=>bn Tryz.prog optsT 40 391 [.int .u8 (.ofNat x)] r)=true:=by kernel_rfl
theorem em {i:Nat} (h:dR i (fun x r=>bn Tryz.prog optsT 40 391 [.int .u8 (.ofNat x)] r)=true) {x:Nat} (h1:x/32=i):SemCall Tryz.prog optsT.glob 391 [.int .u8 (.ofNat x)] (.int .u8 (.ofNat (jW x))):=by
 have h:=List.all_eq_true.1 h (x-32*i) (List.mem_range.2 (by omega))
 rw[show 32*i+(x-32*i)=x by omega] at h
 exact cn (O:=optsT) Tryz.mixed rH d7 (fun _ _ h=>by cases h) rfl h
theorem wt {x:Nat} (hx:x<256):SemCall Tryz.prog optsT.glob 391 [.int .u8 (.ofNat x)] (.int .u8 (.ofNat (jW x))):=by
 have:x/32=0∨x/32=1∨x/32=2∨x/32=3∨x/32=4∨x/32=5∨x/32=6∨x/32=7:=by omega
 rcases this with h|h|h|h|h|h|h|h
 ·exact em wj h
 ·exact em wl h
 ·exact em wm h
 ·exact em wn h
 ·exact em wo h
 ·exact em wq h
 ·exact em wr h
 ·exact em ws h
def mZ (f:FuncId) (args:List AV):Option AV:=match Nat.beq f 391 with
 | true=>match args with
  |[.int .u8 (.ofNat x)]=>match Nat.blt x 256 with
   |true=>some (.int .u8 (.ofNat (jW x)))
   |false=>none
  |_=>none
 |false=>jX f args
theorem gh:∀f args v,mZ f args=some v→SemCall Tryz.prog optsH.glob f args v:=by
 intro f args v h
 unfold mZ at h
 split at h
 ·rename_i hf
  split at h
  ·split at h
   ·rename_i hb
    simp only[Option.some.injEq] at h
    subst h
    rw[beq_iff.1 hf]
    exact wt (blt_iff.1 hb)
   ·cases h
  ·cases h
 ·exact rH _ _ _ h
noncomputable def cP:al:={how:=fun _=> .pure,summ:=mZ,glob:=fun _=>none,lf:=100000}
def ab (l:List Nat):List AV:=l.map fun n=> .int .u8 (.ofNat n)
end Go.Proofs.YtjmnheinkchlfaaGreatDoor
