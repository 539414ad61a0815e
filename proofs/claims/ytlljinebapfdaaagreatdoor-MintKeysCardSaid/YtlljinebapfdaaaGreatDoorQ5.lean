import Derived.Test.YtlljinebapfdaaaGreatDoorQ4
import Derived.Test.YtlljinebapfdaaaGreatDoorG5
import Derived.KernelRfl
import Derived.Test.YtlljinebapfdaaaGreatDoorQ1
namespace Go.Proofs.YtlljinebapfdaaaGreatDoor
open Go Go.RowKit
open Go.Proofs.Abs
def wS (s:Nat):AV→Option AV
 | .nilsl=>some (.int .u32 (.ofNat (oL s [])))
 | .fsl _ es=>match dh es with
  |some l=>match eO (aj l) es&&Nat.ble (ac l) 9223372036854775807 with
   |true=>some (.int .u32 (.ofNat (oL s l)))
   |false=>none
  |none=>none
 |_=>none
theorem Oz {s:Nat} {a r:AV} (hs:s<2^32) (h:wS s a=some r):SC 208 [.int .u32 (.ofNat s),a] r:=by
 unfold wS at h
 split at h
 ·simp only[Option.some.injEq] at h;subst h
  exact Ol hs
 ·rename_i f es
  split at h
  ·rename_i l hl
   split at h
   ·rename_i hb
    simp only[Option.some.injEq] at h;subst h
    rw[Bool.and_eq_true] at hb
    have e:=gQ _ _ hb.1
    rw[←e]
    exact Ok hs (by rw[←aC];exact Nat.le_of_ble_eq_true hb.2)
   ·cases h
  ·cases h
 ·cases h
def wT (f:FuncId) (args:List AV):Option AV:=match Nat.beq f 208,args with
 |true,[.int .u32 (.ofNat s),a]=>match Nat.blt s 4294967296 with
  |true=>wS s a
  |false=>none
 |_,_=>none
theorem OA:∀f args r,ae args=true→wT f args=some r→SC f args r:=by
 intro f args r hcl h
 clear hcl
 unfold wT at h
 split at h
 ·rename_i s a hf
  split at h
  ·rename_i hb
   rw[beq_iff.1 hf]
   exact Oz (blt_iff.1 hb) h
  ·cases h
 ·cases h
def wU (f:FuncId) (args:List AV) (nx:Nat):Option (AV × ab × Nat):=match Nat.beq f 12,args with
 |true,[.int .i64 (.ofNat n)]=>match Nat.ble 8 n&&Nat.ble n 4096 with
  |true=>some (.tuple [.ptr nx 0,I 0],wR nx n,6)
  |false=>none
 |_,_=>none
theorem OB:∀f args nx v H2 m,wU f args nx=some (v,H2,m)→BodySem Tryz.prog opts0.glob f args [] nx v H2 (nx+m):=by
 intro f args nx v H2 m h
 unfold wU at h
 split at h
 ·rename_i n hf
  split at h
  ·rename_i hb
   rw[Bool.and_eq_true] at hb
   simp only[Option.some.injEq,Prod.mk.injEq] at h
   obtain ⟨rfl,rfl,rfl⟩:=h
   rw[beq_iff.1 hf]
   exact Oy nx n (Nat.le_of_ble_eq_true hb.1) (Nat.le_of_ble_eq_true hb.2)
  ·cases h
 ·cases h
def rY:aI:=gq (fun f=>Nat.beq f 12) (lY wU) (lZ wT)
theorem Dj:bo Tryz.prog opts0.glob rY∧bp rY:=FR (FN OB) (FQ base0.glob OA)
end Go.Proofs.YtlljinebapfdaaaGreatDoor
namespace Go.Proofs.YtlljinebapfdaaaGreatDoor
open Go.RowKit
open Go.Proofs.Abs
inductive HT where
 |tip
 |node (k:Nat) (h:o7) (l r:HT)
noncomputable def HT.get (t:HT):Nat→o7:=
 HT.rec (fun _=> .pure) (fun k h _ _ gl gr f=>Bool.rec (Bool.rec (gr f) (gl f) (Nat.blt f k)) h (Nat.beq f k)) t
def hows:HT:=(.node 106 (.look 1) (.node 60 (.look 0) (.node 31 .keep (.node 16 .keep (.node 10 (.each 2) (.node 8 (.part 8) (.node 7 (.part 8) (.node 4 .keep .tip .tip) .tip) (.node 9 (.part 8) .tip .tip)) (.node 13 .keep (.node 12 .known (.node 11 .keep .tip .tip) .tip) (.node 15 .keep .tip .tip))) (.node 24 (.part 8) (.node 22 (.part 8) (.node 18 .keep (.node 17 .keep .tip .tip) .tip) (.node 23 (.part 8) .tip .tip)) (.node 29 .keep (.node 27 .keep .tip .tip) (.node 30 .keep .tip .tip)))) (.node 51 (.part 8) (.node 41 (.look 1) (.node 37 .keep (.node 35 .keep (.node 34 .keep .tip .tip) .tip) (.node 39 .keep .tip .tip)) (.node 48 .keep (.node 47 (.part 8) (.node 43 .keep .tip .tip) .tip) (.node 49 .keep .tip .tip))) (.node 56 (.part 8) (.node 54 (.part 8) (.node 53 (.part 8) (.node 52 (.part 8) .tip .tip) .tip) (.node 55 .keep .tip .tip)) (.node 58 (.part 8) (.node 57 .keep .tip .tip) (.node 59 (.part 8) .tip .tip))))) (.node 86 .keep (.node 75 (.look 1) (.node 70 .keep (.node 63 (.look 0) (.node 62 (.look 0) (.node 61 (.look 0) .tip .tip) .tip) (.node 69 .keep .tip .tip)) (.node 73 (.look 1) (.node 72 .fresh (.node 71 .keep .tip .tip) .tip) (.node 74 (.look 1) .tip .tip))) (.node 81 .keep (.node 78 (.look 0) (.node 77 .keep (.node 76 (.look 1) .tip .tip) .tip) (.node 79 .keep .tip .tip)) (.node 83 .keep (.node 82 .keep .tip .tip) (.node 85 .keep .tip .tip)))) (.node 96 (.look 1) (.node 91 (.look 1) (.node 89 .keep (.node 88 .keep (.node 87 .keep .tip .tip) .tip) (.node 90 (.look 1) .tip .tip)) (.node 94 (.look 1) (.node 92 (.each 0) .tip .tip) (.node 95 (.look 1) .tip .tip))) (.node 101 (.look 1) (.node 99 (.look 1) (.node 98 (.look 1) (.node 97 (.look 1) .tip .tip) .tip) (.node 100 (.look 1) .tip .tip)) (.node 104 (.look 1) (.node 102 (.look 1) .tip .tip) (.node 105 (.look 1) .tip .tip)))))) (.node 173 .keep (.node 148 .keep (.node 122 .keep (.node 112 (.part 8) (.node 110 (.look 8) (.node 108 .keep (.node 107 (.look 1) .tip .tip) .tip) (.node 111 (.part 8) .tip .tip)) (.node 116 .keep (.node 115 .keep (.node 114 (.part 8) .tip .tip) .tip) (.node 117 .keep .tip .tip))) (.node 142 (.look 1) (.node 139 (.look 1) (.node 138 .keep (.node 123 (.look 8) .tip .tip) .tip) (.node 141 (.look 0) .tip .tip)) (.node 145 .keep (.node 143 .keep .tip .tip) (.node 146 (.look 1) .tip .tip)))) (.node 161 .keep (.node 154 .keep (.node 152 .keep (.node 151 .keep (.node 150 .fresh .tip .tip) .tip) (.node 153 .keep .tip .tip)) (.node 159 .keep (.node 155 .keep .tip .tip) (.node 160 .keep .tip .tip))) (.node 167 (.part 2) (.node 164 (.look 1) (.node 163 .keep (.node 162 (.look 1) .tip .tip) .tip) (.node 165 (.part 2) .tip .tip)) (.node 170 .keep (.node 169 (.look 1) .tip .tip) (.node 171 .keep .tip .tip))))) (.node 217 (.part 2) (.node 206 .keep (.node 194 .keep (.node 176 .keep (.node 175 (.look 1) (.node 174 (.look 1) .tip .tip) .tip) (.node 181 .keep .tip .tip)) (.node 204 (.look 0) (.node 203 .cmp (.node 195 .keep .tip .tip) .tip) (.node 205 .keep .tip .tip))) (.node 213 (.look 0) (.node 210 .keep (.node 208 .known (.node 207 (.look 0) .tip .tip) .tip) (.node 212 .clone .tip .tip)) (.node 215 .keep (.node 214 .keep .tip .tip) (.node 216 (.part 2) .tip .tip)))) (.node 286 (.look 0) (.node 277 (.look 0) (.node 245 .keep (.node 244 .keep (.node 243 .keep .tip .tip) .tip) (.node 266 .fresh .tip .tip)) (.node 283 (.look 0) (.node 280 (.look 0) .tip .tip) (.node 285 (.look 0) .tip .tip))) (.node 349 .keep (.node 331 .fresh (.node 298 .fresh (.node 287 (.look 0) .tip .tip) .tip) (.node 332 .fresh .tip .tip)) (.node 354 .keep (.node 351 .keep .tip .tip) (.node 355 .keep .tip .tip)))))))
noncomputable def optsH:aT:={how:=hows.get,summ:=fun _ _=>none,glob:=fun _=>none,lf:=100000,cx:=rY}
theorem OC:pD (fm Tryz.prog optsH (eT Tryz.prog optsH 40) 5 [] [] 0)=true:=by kernel_rfl
theorem OD:SemCall Tryz.prog optsH.glob 5 [] (.bool true):=Gi (O:=optsH) Tryz.mixed (fun _ _ _ h=>by cases h) Dj (fun _ _ h=>by cases h) OC
def rZ:List Nat:=[60,61,62,63]
noncomputable def OE (f:Nat):o7:=match dD rZ f with
 |true=> .pure
 |false=>hows.get f
noncomputable def wV (f:FuncId) (args:List AV):Option AV:=match dD rZ f with
 |true=>match args with
  |[.fsl _ []]=>some (.fsl false [])
  |_=>none
 |false=>none
theorem OG:∀f,dD rZ f=true→SemCall Tryz.prog optsH.glob f [.fsl false []] (.fsl false []):=by
 intro f h
 have hm:f=60∨f=61∨f=62∨f=63:=by
  have:=memN_iff.1 h
  simpa [rZ] using this
 rcases hm with rfl|rfl|rfl|rfl
 ·exact uR (l:=[]) (fun _ h=>by cases h) rfl (Nat.zero_le _)
 ·exact z4 (l:=[]) (fun _ h=>by cases h) rfl (Nat.zero_le _)
 ·exact z5 (l:=[]) (fun _ h=>by cases h) rfl (Nat.zero_le _)
 ·exact z6 (l:=[]) (fun _ h=>by cases h) rfl (Nat.zero_le _)
theorem OH:∀f args v,wV f args=some v→SemCall Tryz.prog optsH.glob f args v:=by
 intro f args v h
 unfold wV at h
 split at h
 ·rename_i hf
  split at h
  ·rename_i b
   simp only[Option.some.injEq] at h
   subst h
   exact (OG f hf).wkA (.cons .row .nil)
  ·cases h
 ·cases h
noncomputable def optsV:aT:={how:=OE,summ:=wV,glob:=fun _=>none,lf:=100000,cx:=rY}
def Dk:ab:=[(1897,some (.cells [.nilsl,.int .i64 5,.int .u64 1,.nilsl,.int .i64 0])),(1682,some (.cells [.map 1680,.int .i64 5,.int .u64 1,.bool true,.bool true,.nilsl])),(1680,some (.mapb 0 [] []))]
theorem OI:uF Tryz.prog optsV 40 4 [.nilsl,.int .i64 5] 7 (.tuple [.ptr 1682 0,.ptr 1897 0]) Dk 2027=true:=by kernel_rfl
theorem OJ:BodySem Tryz.prog optsV.glob 4 [.nilsl,.int .i64 5] [] 7 (.tuple [.ptr 1682 0,.ptr 1897 0]) Dk (7+2027):=Gj (O:=optsV) Tryz.mixed OH Dj (fun _ _ h=>by cases h) OI
end Go.Proofs.YtlljinebapfdaaaGreatDoor
