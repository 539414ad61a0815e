/- Kinds, Texts, Put, TSame, Places, More, Ops, Cls, Cls2. -/
import Derived.Test.YtjhggnebkfpgcaaGreatDoorQ1
import Derived.KernelRfl
import Derived.Test.YtjhggnebkfpgcaaGreatDoorG5
namespace Go.Proofs.YtjhggnebkfpgcaaGreatDoor
open Go Go.RowKit
open Go.Proofs.Abs
noncomputable section
inductive Kd where
 |uid|nam|typ|alg|len|mask|sta
 |dat (k:Nat)
 |why|lnk|lim
 |cus (s:List UInt8)
def dateN:Nat→List UInt8
 |0=>[73,110,105,116,105,97,108,32,68,97,116,101]
 |1=>[65,99,116,105,118,97,116,105,111,110,32,68,97,116,101]
 |2=>[80,114,111,99,101,115,115,32,83,116,97,114,116,32,68,97,116,101]
 |3=>[80,114,111,116,101,99,116,32,83,116,111,112,32,68,97,116,101]
 |4=>[68,101,97,99,116,105,118,97,116,105,111,110,32,68,97,116,101]
 |5=>[68,101,115,116,114,111,121,32,68,97,116,101]
 |6=>[67,111,109,112,114,111,109,105,115,101,32,79,99,99,117,114,114,101,110,99,101,32,68,97,116,101]
 |7=>[67,111,109,112,114,111,109,105,115,101,32,68,97,116,101]
 |8=>[65,114,99,104,105,118,101,32,68,97,116,101]
 |_=>[76,97,115,116,32,67,104,97,110,103,101,32,68,97,116,101]
def nameK:Kd→List UInt8
 | .uid=>[85,110,105,113,117,101,32,73,100,101,110,116,105,102,105,101,114]
 | .nam=>[78,97,109,101]
 | .typ=>[79,98,106,101,99,116,32,84,121,112,101]
 | .alg=>[67,114,121,112,116,111,103,114,97,112,104,105,99,32,65,108,103,111,114,105,116,104,109]
 | .len=>[67,114,121,112,116,111,103,114,97,112,104,105,99,32,76,101,110,103,116,104]
 | .mask=>[67,114,121,112,116,111,103,114,97,112,104,105,99,32,85,115,97,103,101,32,77,97,115,107]
 | .sta=>[83,116,97,116,101]
 | .why=>[82,101,118,111,99,97,116,105,111,110,32,82,101,97,115,111,110]
 | .lnk=>[76,105,110,107]
 | .lim=>[85,115,97,103,101,32,76,105,109,105,116,115]
 | .dat k=>dateN k
 | .cus s=>s
def manyK:Kd→Bool
 | .nam| .lnk| .cus _=>true
 |_=>false
def setD (k:Nat):Bool:=Nat.ble 1 k&&Nat.ble k 4
def setK:Kd→Bool
 | .nam| .lnk| .cus _| .alg| .len| .mask| .lim=>true
 | .dat k=>setD k
 |_=>false
def typeK:Kd→Int
 | .uid| .nam| .cus _=>7
 | .typ| .alg| .sta=>5
 | .len| .mask=>2
 | .dat _=>9
 | .why| .lnk| .lim=>1
def fnA (f:Nat):AV:= .func (.func f) [] []
def fnC (f:Nat) (c:List AV):AV:= .func (.func f) [] c
def alw:AV:=fnA 158
def youngA:AV:=fnA 125
def usedA:AV:=fnA 137
def addD:Nat→AV
 |1|2=>youngA
 |3|4=>usedA
 |_=> .nilFunc
def addK:Kd→AV
 | .nam| .lnk| .cus _| .lim=>alw
 | .dat k=>addD k
 |_=> .nilFunc
def modK:Kd→AV
 | .nam| .lnk| .cus _=>alw
 | .mask=>youngA
 | .lim=>fnA 189
 | .dat k=>addD k
 |_=> .nilFunc
def remD:Nat→AV
 |2=>youngA
 |3=>usedA
 |_=> .nilFunc
def remK:Kd→AV
 | .nam| .lnk| .cus _=>alw
 | .lim=>fnA 189
 | .dat k=>remD k
 |_=> .nilFunc
def atF:Kd→AV
 | .alg=>fnA 132
 | .len=>fnA 133
 |_=>fnA 124
def mostK:Kd→Int
 | .alg=>100
 | .len=>100000
 |_=>1048575
def leastK:Kd→Int
 | .mask=>0
 |_=>1
def plG (k:Kd):AV:=fnC 161 [.fptr [atF k] 0,.fptr [I (leastK k)] 0,.fptr [I (typeK k)] 0]
def plR (k:Kd):AV:=fnC 162 [.fptr [I (typeK k)] 0,.fptr [I (leastK k)] 0,.fptr [I (mostK k)] 0]
def plP (k:Kd):AV:=fnC 164 [.fptr [atF k] 0]
def nI (k:Nat):AV:= .int .i64 (.ofNat k)
def getF:Kd→AV
 | .uid=>fnA 127
 | .nam=>fnA 166
 | .typ=>fnA 130
 | .sta=>fnA 134
 | .dat k=>fnC 172 [.fptr [nI k] 0]
 | .why=>fnA 138
 | .lnk=>fnA 178
 | .lim=>fnA 184
 | .cus s=>fnC 150 [.fptr [.str s] 0]
 |k=>plG k
def rightF:Kd→AV
 | .nam=>fnA 167
 | .dat _=>fnA 173
 | .lnk=>fnA 179
 | .lim=>fnA 185
 | .cus _=>fnA 152
 | .uid| .typ| .sta| .why=> .nilFunc
 |k=>plR k
def putF:Kd→AV
 | .nam=>fnA 168
 | .dat k=>fnC 174 [.fptr [nI k] 0]
 | .lnk=>fnA 180
 | .lim=>fnA 187
 | .cus s=>fnC 154 [.fptr [.str s] 0]
 | .uid| .typ| .sta| .why=> .nilFunc
 |k=>plP k
def dropF:Kd→AV
 | .nam=>fnA 170
 | .dat k=>fnC 175 [.fptr [nI k] 0]
 | .lnk=>fnA 182
 | .lim=>fnA 188
 | .cus s=>fnC 156 [.fptr [.str s] 0]
 |_=> .nilFunc
def roomF:Kd→AV
 | .nam=>fnA 165
 | .lnk=>fnA 177
 | .cus _=>fnA 149
 |_=> .nilFunc
def rowC (k:Kd):List AV:=[.str (nameK k),I (typeK k),.bool (manyK k),.bool (setK k),addK k,modK k,remK k,getF k,rightF k,putF k,dropF k,roomF k]
def rowA (k:Kd):AV:= .agg (rowC k)
def rowZ:AV:= .agg [.str [],I 0,.bool false,.bool false,.nilFunc,.nilFunc,.nilFunc,.nilFunc,.nilFunc,.nilFunc,.nilFunc,.nilFunc]
def kinds:List Kd:=[.uid,.nam,.typ,.alg,.len,.mask,.sta,.dat 0,.dat 1,.dat 2,.dat 3,.dat 4,.dat 5,.dat 6,.dat 7,.dat 8,.dat 9,.why,.lnk,.lim]
abbrev yo1:=[AV.str [67,114,121,112,116,111,103,114,97,112,104,105,99,32,85,115,97,103,101,32,77,97,115,107],I 2,AV.bool false,AV.bool true,AV.nilFunc,AV.func (Fn.func 125) [] [],AV.nilFunc,AV.func (Fn.func 161) [] [AV.fptr [AV.func (Fn.func 124) [] []] 0,AV.fptr [I 0] 0,AV.fptr [I 2] 0],AV.func (Fn.func 162) [] [AV.fptr [I 2] 0,AV.fptr [I 0] 0,AV.fptr [I 1048575] 0],AV.func (Fn.func 164) [] [AV.fptr [AV.func (Fn.func 124) [] []] 0],AV.nilFunc,AV.nilFunc]
abbrev yo2:=[AV.str [67,114,121,112,116,111,103,114,97,112,104,105,99,32,65,108,103,111,114,105,116,104,109],I 5,AV.bool false,AV.bool true,AV.nilFunc,AV.nilFunc,AV.nilFunc,AV.func (Fn.func 161) [] [AV.fptr [AV.func (Fn.func 132) [] []] 0,AV.fptr [I 1] 0,AV.fptr [I 5] 0],AV.func (Fn.func 162) [] [AV.fptr [I 5] 0,AV.fptr [I 1] 0,AV.fptr [I 100] 0],AV.func (Fn.func 164) [] [AV.fptr [AV.func (Fn.func 132) [] []] 0],AV.nilFunc,AV.nilFunc]
abbrev yo3:=[AV.str [67,114,121,112,116,111,103,114,97,112,104,105,99,32,76,101,110,103,116,104],I 2,AV.bool false,AV.bool true,AV.nilFunc,AV.nilFunc,AV.nilFunc,AV.func (Fn.func 161) [] [AV.fptr [AV.func (Fn.func 133) [] []] 0,AV.fptr [I 1] 0,AV.fptr [I 2] 0],AV.func (Fn.func 162) [] [AV.fptr [I 2] 0,AV.fptr [I 1] 0,AV.fptr [I 100000] 0],AV.func (Fn.func 164) [] [AV.fptr [AV.func (Fn.func 133) [] []] 0],AV.nilFunc,AV.nilFunc]
abbrev yo4:=[AV.str [80,114,111,99,101,115,115,32,83,116,97,114,116,32,68,97,116,101],I 9,AV.bool false,AV.bool true,AV.func (Fn.func 125) [] [],AV.func (Fn.func 125) [] [],AV.func (Fn.func 125) [] [],AV.func (Fn.func 172) [] [AV.fptr [I 2] 0],AV.func (Fn.func 173) [] [],AV.func (Fn.func 174) [] [AV.fptr [I 2] 0],AV.func (Fn.func 175) [] [AV.fptr [I 2] 0],AV.nilFunc]
abbrev yo5:=[AV.str [80,114,111,116,101,99,116,32,83,116,111,112,32,68,97,116,101],I 9,AV.bool false,AV.bool true,AV.func (Fn.func 137) [] [],AV.func (Fn.func 137) [] [],AV.func (Fn.func 137) [] [],AV.func (Fn.func 172) [] [AV.fptr [I 3] 0],AV.func (Fn.func 173) [] [],AV.func (Fn.func 174) [] [AV.fptr [I 3] 0],AV.func (Fn.func 175) [] [AV.fptr [I 3] 0],AV.nilFunc]
abbrev yo6:=[AV.str [67,111,109,112,114,111,109,105,115,101,32,79,99,99,117,114,114,101,110,99,101,32,68,97,116,101],I 9,AV.bool false,AV.bool false,AV.nilFunc,AV.nilFunc,AV.nilFunc,AV.func (Fn.func 172) [] [AV.fptr [I 6] 0],AV.func (Fn.func 173) [] [],AV.func (Fn.func 174) [] [AV.fptr [I 6] 0],AV.func (Fn.func 175) [] [AV.fptr [I 6] 0],AV.nilFunc]
abbrev yo7:=[AV.str [68,101,97,99,116,105,118,97,116,105,111,110,32,68,97,116,101],I 9,AV.bool false,AV.bool true,AV.func (Fn.func 137) [] [],AV.func (Fn.func 137) [] [],AV.nilFunc,AV.func (Fn.func 172) [] [AV.fptr [I 4] 0],AV.func (Fn.func 173) [] [],AV.func (Fn.func 174) [] [AV.fptr [I 4] 0],AV.func (Fn.func 175) [] [AV.fptr [I 4] 0],AV.nilFunc]
abbrev yo9:=[AV.str [65,99,116,105,118,97,116,105,111,110,32,68,97,116,101],I 9,AV.bool false,AV.bool true,AV.func (Fn.func 125) [] [],AV.func (Fn.func 125) [] [],AV.nilFunc,AV.func (Fn.func 172) [] [AV.fptr [I 1] 0],AV.func (Fn.func 173) [] [],AV.func (Fn.func 174) [] [AV.fptr [I 1] 0],AV.func (Fn.func 175) [] [AV.fptr [I 1] 0],AV.nilFunc]
abbrev yo10:=[AV.str [76,97,115,116,32,67,104,97,110,103,101,32,68,97,116,101],I 9,AV.bool false,AV.bool false,AV.nilFunc,AV.nilFunc,AV.nilFunc,AV.func (Fn.func 172) [] [AV.fptr [I 9] 0],AV.func (Fn.func 173) [] [],AV.func (Fn.func 174) [] [AV.fptr [I 9] 0],AV.func (Fn.func 175) [] [AV.fptr [I 9] 0],AV.nilFunc]
abbrev yo11:=[AV.str [67,111,109,112,114,111,109,105,115,101,32,68,97,116,101],I 9,AV.bool false,AV.bool false,AV.nilFunc,AV.nilFunc,AV.nilFunc,AV.func (Fn.func 172) [] [AV.fptr [I 7] 0],AV.func (Fn.func 173) [] [],AV.func (Fn.func 174) [] [AV.fptr [I 7] 0],AV.func (Fn.func 175) [] [AV.fptr [I 7] 0],AV.nilFunc]
abbrev yo12:=[AV.str [85,115,97,103,101,32,76,105,109,105,116,115],I 1,AV.bool false,AV.bool true,AV.func (Fn.func 158) [] [],AV.func (Fn.func 189) [] [],AV.func (Fn.func 189) [] [],AV.func (Fn.func 184) [] [],AV.func (Fn.func 185) [] [],AV.func (Fn.func 187) [] [],AV.func (Fn.func 188) [] [],AV.nilFunc]
abbrev yo14:=[AV.str [68,101,115,116,114,111,121,32,68,97,116,101],I 9,AV.bool false,AV.bool false,AV.nilFunc,AV.nilFunc,AV.nilFunc,AV.func (Fn.func 172) [] [AV.fptr [I 5] 0],AV.func (Fn.func 173) [] [],AV.func (Fn.func 174) [] [AV.fptr [I 5] 0],AV.func (Fn.func 175) [] [AV.fptr [I 5] 0],AV.nilFunc]
abbrev yo15:=[AV.str [73,110,105,116,105,97,108,32,68,97,116,101],I 9,AV.bool false,AV.bool false,AV.nilFunc,AV.nilFunc,AV.nilFunc,AV.func (Fn.func 172) [] [AV.fptr [I 0] 0],AV.func (Fn.func 173) [] [],AV.func (Fn.func 174) [] [AV.fptr [I 0] 0],AV.func (Fn.func 175) [] [AV.fptr [I 0] 0],AV.nilFunc]
abbrev yo16:=[AV.str [65,114,99,104,105,118,101,32,68,97,116,101],I 9,AV.bool false,AV.bool false,AV.nilFunc,AV.nilFunc,AV.nilFunc,AV.func (Fn.func 172) [] [AV.fptr [I 8] 0],AV.func (Fn.func 173) [] [],AV.func (Fn.func 174) [] [AV.fptr [I 8] 0],AV.func (Fn.func 175) [] [AV.fptr [I 8] 0],AV.nilFunc]
abbrev yo17:=[AV.str [76,105,110,107],I 1,AV.bool true,AV.bool true,AV.func (Fn.func 158) [] [],AV.func (Fn.func 158) [] [],AV.func (Fn.func 158) [] [],AV.func (Fn.func 178) [] [],AV.func (Fn.func 179) [] [],AV.func (Fn.func 180) [] [],AV.func (Fn.func 182) [] [],AV.func (Fn.func 177) [] []]
abbrev yo18:=[AV.str [78,97,109,101],I 7,AV.bool true,AV.bool true,AV.func (Fn.func 158) [] [],AV.func (Fn.func 158) [] [],AV.func (Fn.func 158) [] [],AV.func (Fn.func 166) [] [],AV.func (Fn.func 167) [] [],AV.func (Fn.func 168) [] [],AV.func (Fn.func 170) [] [],AV.func (Fn.func 165) [] []]
abbrev yo20:=[AV.str [85,110,105,113,117,101,32,73,100,101,110,116,105,102,105,101,114],I 7,AV.bool false,AV.bool false,AV.nilFunc,AV.nilFunc,AV.nilFunc,AV.func (Fn.func 127) [] [],AV.nilFunc,AV.nilFunc,AV.nilFunc,AV.nilFunc]
abbrev yo21:=[AV.str [82,101,118,111,99,97,116,105,111,110,32,82,101,97,115,111,110],I 1,AV.bool false,AV.bool false,AV.nilFunc,AV.nilFunc,AV.nilFunc,AV.func (Fn.func 138) [] [],AV.nilFunc,AV.nilFunc,AV.nilFunc,AV.nilFunc]
abbrev yo22:=[AV.str [79,98,106,101,99,116,32,84,121,112,101],I 5,AV.bool false,AV.bool false,AV.nilFunc,AV.nilFunc,AV.nilFunc,AV.func (Fn.func 130) [] [],AV.nilFunc,AV.nilFunc,AV.nilFunc,AV.nilFunc]
abbrev yo23:=[AV.str [83,116,97,116,101],I 5,AV.bool false,AV.bool false,AV.nilFunc,AV.nilFunc,AV.nilFunc,AV.func (Fn.func 134) [] [],AV.nilFunc,AV.nilFunc,AV.nilFunc,AV.nilFunc]
abbrev yo8:=(AV.fsl true [AV.agg yo20,AV.agg yo18,AV.agg yo22,AV.agg yo2,AV.agg yo3,AV.agg yo1,AV.agg yo23,AV.agg yo15,AV.agg yo9,AV.agg yo4,AV.agg yo5,AV.agg yo7,AV.agg yo14,AV.agg yo6,AV.agg yo11,AV.agg yo16,AV.agg yo10,AV.agg yo21,AV.agg yo17,AV.agg yo12])
theorem table_fn (Q:AV→Prop):fnK Tryz.prog opts0 40 aid0 91 [] [] 0 (fun v _ _=>Q v)=
  (Q yo8):=by kernel_rfl
theorem table_sem:SC 91 [] (.fsl true (kinds.map rowA)):=by
 refine fnK_semE (A:=aid0) base0 aidOk0 (fnLs_of (LsOk.no rfl)) rfl ?_
 rw[table_fn]
 exact end_eq rfl (by kernel_rfl)
abbrev yo19 (s:List UInt8):=[AV.str s,I 7,AV.bool true,AV.bool true,AV.func (Fn.func 158) [] [],AV.func (Fn.func 158) [] [],AV.func (Fn.func 158) [] [],AV.func (Fn.func 150) [] [AV.ptr 0 0],AV.func (Fn.func 152) [] [],AV.func (Fn.func 154) [] [AV.ptr 0 0],AV.func (Fn.func 156) [] [AV.ptr 0 0],AV.func (Fn.func 149) [] []]
theorem custom_fn (s:List UInt8) (Q:AV→Heap→Nat→Prop):fnK Tryz.prog opts0 40 aid0 112 [.str s] [] 0 Q=
  (Q (AV.agg (yo19 s)) [(1,some (Blk.cells (yo19 s))),(0,some (Blk.cells [AV.str s]))] 24):=by kernel_rfl
theorem custom_sem (s:List UInt8):SC 112 [.str s] (rowA (.cus s)):=by
 refine fnK_sem (A:=aid0) base0 aidOk0 (fnLs_of (LsOk.no rfl)) rfl ?_
 rw[custom_fn]
 exact ⟨⟨6,rfl⟩,rfl⟩
def fiA (c:Bool) (s:List UInt8):Aid:=aidJ [] [] (manyS [(111,.bool c),(112,rowA (.cus s)),(91,.fsl true (kinds.map rowA))]) [] []
abbrev yo13 (s:List UInt8):=[AV.str s,I 7,AV.bool true,AV.bool true,AV.func (Fn.func 158) [] [],AV.func (Fn.func 158) [] [],AV.func (Fn.func 158) [] [],AV.func (Fn.func 150) [] [AV.fptr [AV.str s] 0],AV.func (Fn.func 152) [] [],AV.func (Fn.func 154) [] [AV.fptr [AV.str s] 0],AV.func (Fn.func 156) [] [AV.fptr [AV.str s] 0],AV.func (Fn.func 149) [] []]
theorem find_fn (c:Bool) (s:List UInt8) (Q:AV→Prop):fnK Tryz.prog opts0 40 (fiA c s) 61 [.str s] [] 0 (fun v _ _=>Q v)=
  (SC 111 [AV.str s] (AV.bool c)∧mtB c (SC 112 [AV.str s] (AV.agg (yo13 s))∧Q (AV.tuple [AV.agg (yo13 s),AV.bool true])) (SC 91 [] yo8∧mtB (beqBytes [85,110,105,113,117,101,32,73,100,101,110,116,105,102,105,101,114] s) (Q (AV.tuple [AV.agg yo20,AV.bool true])) (mtB (beqBytes [78,97,109,101] s) (Q (AV.tuple [AV.agg yo18,AV.bool true])) (mtB (beqBytes [79,98,106,101,99,116,32,84,121,112,101] s) (Q (AV.tuple [AV.agg yo22,AV.bool true])) (mtB (beqBytes [67,114,121,112,116,111,103,114,97,112,104,105,99,32,65,108,103,111,114,105,116,104,109] s) (Q (AV.tuple [AV.agg yo2,AV.bool true])) (mtB (beqBytes [67,114,121,112,116,111,103,114,97,112,104,105,99,32,76,101,110,103,116,104] s) (Q (AV.tuple [AV.agg yo3,AV.bool true])) (mtB (beqBytes [67,114,121,112,116,111,103,114,97,112,104,105,99,32,85,115,97,103,101,32,77,97,115,107] s) (Q (AV.tuple [AV.agg yo1,AV.bool true])) (mtB (beqBytes [83,116,97,116,101] s) (Q (AV.tuple [AV.agg yo23,AV.bool true])) (mtB (beqBytes [73,110,105,116,105,97,108,32,68,97,116,101] s) (Q (AV.tuple [AV.agg yo15,AV.bool true])) (mtB (beqBytes [65,99,116,105,118,97,116,105,111,110,32,68,97,116,101] s) (Q (AV.tuple [AV.agg yo9,AV.bool true])) (mtB (beqBytes [80,114,111,99,101,115,115,32,83,116,97,114,116,32,68,97,116,101] s) (Q (AV.tuple [AV.agg yo4,AV.bool true])) (mtB (beqBytes [80,114,111,116,101,99,116,32,83,116,111,112,32,68,97,116,101] s) (Q (AV.tuple [AV.agg yo5,AV.bool true])) (mtB (beqBytes [68,101,97,99,116,105,118,97,116,105,111,110,32,68,97,116,101] s) (Q (AV.tuple [AV.agg yo7,AV.bool true])) (mtB (beqBytes [68,101,115,116,114,111,121,32,68,97,116,101] s) (Q (AV.tuple [AV.agg yo14,AV.bool true])) (mtB (beqBytes [67,111,109,112,114,111,109,105,115,101,32,79,99,99,117,114,114,101,110,99,101,32,68,97,116,101] s) (Q (AV.tuple [AV.agg yo6,AV.bool true])) (mtB (beqBytes [67,111,109,112,114,111,109,105,115,101,32,68,97,116,101] s) (Q (AV.tuple [AV.agg yo11,AV.bool true])) (mtB (beqBytes [65,114,99,104,105,118,101,32,68,97,116,101] s) (Q (AV.tuple [AV.agg yo16,AV.bool true])) (mtB (beqBytes [76,97,115,116,32,67,104,97,110,103,101,32,68,97,116,101] s) (Q (AV.tuple [AV.agg yo10,AV.bool true])) (mtB (beqBytes [82,101,118,111,99,97,116,105,111,110,32,82,101,97,115,111,110] s) (Q (AV.tuple [AV.agg yo21,AV.bool true])) (mtB (beqBytes [76,105,110,107] s) (Q (AV.tuple [AV.agg yo17,AV.bool true])) (mtB (beqBytes [85,115,97,103,101,32,76,105,109,105,116,115] s) (Q (AV.tuple [AV.agg yo12,AV.bool true])) (Q (AV.tuple [AV.agg [AV.str [],I 0,AV.bool false,AV.bool false,AV.nilFunc,AV.nilFunc,AV.nilFunc,AV.nilFunc,AV.nilFunc,AV.nilFunc,AV.nilFunc,AV.nilFunc],AV.bool false]))))))))))))))))))))))):=by kernel_rfl
def findL (s:List UInt8):List Kd→Option Kd
 |[]=>none
 |k::r=>match beqBytes (nameK k) s with
  |true=>some k
  |false=>findL s r
def findK (c:Bool) (s:List UInt8):Option Kd:=match c with
 |true=>some (.cus s)
 |false=>findL s kinds
def rowO:Option Kd→AV
 |some k=> .tuple [rowA k,.bool true]
 |none=> .tuple [rowZ,.bool false]
theorem closed_row (k:Kd):closedA (rowA k)=true:=by
 cases k with
 |dat k=>
  have h1:closedA (addD k)=true:=by unfold addD;split<;>rfl
  have h2:closedA (remD k)=true:=by unfold remD;split<;>rfl
  simp[rowA,rowC,closedA,closedAll,addK,modK,remK,h1,h2,getF,rightF,putF,dropF,roomF,fnA,fnC,nI]
 |_=>rfl
set_option maxRecDepth 20000 in
theorem find_sem {c:Bool} {s:List UInt8} (hc:SC 111 [.str s] (.bool c)):SC 61 [.str s] (rowO (findK c s)):=by
 refine fnK_semE (A:=fiA c s) base0 aidJ_ok (fnLs_of (LsOk.no rfl)) rfl ?_
 rw[find_fn]
 refine And.intro hc (mtB_of (fun e=>And.intro (custom_sem s) ?_) (fun e=>And.intro table_sem ?_))
 ·subst e;exact end_eq rfl (by simp[findK,rowO,closedA,closedAll,closed_row])
 ·subst e
  simp only[findK]
  repeat' refine mtB_of (fun _=> ?_) (fun _=> ?_)
  all_goals
   simp only[kinds,findL,nameK,dateN, *]
   exact end_eq rfl (by simp[rowO,closedA,closedAll,closed_row,rowZ])
end
noncomputable def optsK:Opts:={how:=fun f=>match memN [119,120,121,193,194,191] f with|true=> .keep|false=> .pure,summ:=fun _ _=>none,glob:=gl,lf:=100000}
set_option maxRecDepth 20000 in
theorem ansK {f:FuncId} {args:List AV} {v:AV} (hcl:closedAll args=true) (h:ansQ Tryz.prog optsK 40 f args=some v) (hv:closedA v=true):SC f args v:=
 ansQ_sem (O:=optsK) Tryz.mixed (fun _ _ _ h=>by cases h) gl_closed noCall_ok' hcl h hv
def texts:List (List UInt8):=[[111,110,101],[116,119,111],[116,104,114,101,101],[102,111,117,114],[102,105,118,101],[],[53],[49],[50],[51],[52],[54],[55],[57,57],[120],[49,50,51,52,53,54,55,56],[109],[108,111,115,116]]
def cusB:List UInt8→Bool
 |120::45::_=>true
 |_=>false
theorem cu0:ansQ Tryz.prog optsK 40 111 [.str [85,110,105,113,117,101,32,73,100,101,110,116,105,102,105,101,114]]=some (.bool false):=by kernel_rfl
theorem cu1:ansQ Tryz.prog optsK 40 111 [.str [78,97,109,101]]=some (.bool false):=by kernel_rfl
theorem cu2:ansQ Tryz.prog optsK 40 111 [.str [79,98,106,101,99,116,32,84,121,112,101]]=some (.bool false):=by kernel_rfl
theorem cu3:ansQ Tryz.prog optsK 40 111 [.str [67,114,121,112,116,111,103,114,97,112,104,105,99,32,65,108,103,111,114,105,116,104,109]]=some (.bool false):=by kernel_rfl
theorem cu4:ansQ Tryz.prog optsK 40 111 [.str [67,114,121,112,116,111,103,114,97,112,104,105,99,32,76,101,110,103,116,104]]=some (.bool false):=by kernel_rfl
theorem cu5:ansQ Tryz.prog optsK 40 111 [.str [67,114,121,112,116,111,103,114,97,112,104,105,99,32,85,115,97,103,101,32,77,97,115,107]]=some (.bool false):=by kernel_rfl
theorem cu6:ansQ Tryz.prog optsK 40 111 [.str [83,116,97,116,101]]=some (.bool false):=by kernel_rfl
theorem cu7:ansQ Tryz.prog optsK 40 111 [.str [73,110,105,116,105,97,108,32,68,97,116,101]]=some (.bool false):=by kernel_rfl
theorem cu8:ansQ Tryz.prog optsK 40 111 [.str [65,99,116,105,118,97,116,105,111,110,32,68,97,116,101]]=some (.bool false):=by kernel_rfl
theorem cu9:ansQ Tryz.prog optsK 40 111 [.str [80,114,111,99,101,115,115,32,83,116,97,114,116,32,68,97,116,101]]=some (.bool false):=by kernel_rfl
theorem cu10:ansQ Tryz.prog optsK 40 111 [.str [80,114,111,116,101,99,116,32,83,116,111,112,32,68,97,116,101]]=some (.bool false):=by kernel_rfl
theorem cu11:ansQ Tryz.prog optsK 40 111 [.str [68,101,97,99,116,105,118,97,116,105,111,110,32,68,97,116,101]]=some (.bool false):=by kernel_rfl
theorem cu12:ansQ Tryz.prog optsK 40 111 [.str [68,101,115,116,114,111,121,32,68,97,116,101]]=some (.bool false):=by kernel_rfl
theorem cu13:ansQ Tryz.prog optsK 40 111 [.str [67,111,109,112,114,111,109,105,115,101,32,79,99,99,117,114,114,101,110,99,101,32,68,97,116,101]]=some (.bool false):=by kernel_rfl
theorem cu14:ansQ Tryz.prog optsK 40 111 [.str [67,111,109,112,114,111,109,105,115,101,32,68,97,116,101]]=some (.bool false):=by kernel_rfl
theorem cu15:ansQ Tryz.prog optsK 40 111 [.str [65,114,99,104,105,118,101,32,68,97,116,101]]=some (.bool false):=by kernel_rfl
theorem cu16:ansQ Tryz.prog optsK 40 111 [.str [76,97,115,116,32,67,104,97,110,103,101,32,68,97,116,101]]=some (.bool false):=by kernel_rfl
theorem cu17:ansQ Tryz.prog optsK 40 111 [.str [82,101,118,111,99,97,116,105,111,110,32,82,101,97,115,111,110]]=some (.bool false):=by kernel_rfl
theorem cu18:ansQ Tryz.prog optsK 40 111 [.str [76,105,110,107]]=some (.bool false):=by kernel_rfl
theorem cu19:ansQ Tryz.prog optsK 40 111 [.str [85,115,97,103,101,32,76,105,109,105,116,115]]=some (.bool false):=by kernel_rfl
theorem cu20:ansQ Tryz.prog optsK 40 111 [.str [120,45,97]]=some (.bool true):=by kernel_rfl
theorem cu21:ansQ Tryz.prog optsK 40 111 [.str [120,45,98]]=some (.bool true):=by kernel_rfl
theorem cu22:ansQ Tryz.prog optsK 40 111 [.str [120,45]]=some (.bool true):=by kernel_rfl
theorem cu23:ansQ Tryz.prog optsK 40 111 [.str [121]]=some (.bool false):=by kernel_rfl
theorem cus_sem:∀s∈nameL,SC 111 [.str s] (.bool (cusB s)):=by
 simp only[nameL,List.forall_mem_cons]
 exact ⟨ansK rfl cu0 rfl,ansK rfl cu1 rfl,ansK rfl cu2 rfl,ansK rfl cu3 rfl,ansK rfl cu4 rfl,ansK rfl cu5 rfl,ansK rfl cu6 rfl,ansK rfl cu7 rfl,ansK rfl cu8 rfl,ansK rfl cu9 rfl,ansK rfl cu10 rfl,ansK rfl cu11 rfl,ansK rfl cu12 rfl,ansK rfl cu13 rfl,ansK rfl cu14 rfl,ansK rfl cu15 rfl,ansK rfl cu16 rfl,ansK rfl cu17 rfl,ansK rfl cu18 rfl,ansK rfl cu19 rfl,ansK rfl cu20 rfl,ansK rfl cu21 rfl,ansK rfl cu22 rfl,ansK rfl cu23 rfl,fun _ h=>by cases h⟩
def putL {α:Type} (l:List α) (i:Nat) (x:α):List α:=l.take i++x::l.drop (i+1)
noncomputable section
theorem count_up {p:Nat→Prop} (n:Nat) (hn:p n) (hs:∀i,i<n→p (i+1)→p i):∀i,i≤n→p i:=by
 intro i hi
 obtain ⟨m,rfl⟩:∃m,n=i+m:=⟨n-i,by omega⟩
 clear hi
 induction m generalizing i with
 |zero=>exact hn
 |succ m ih=>exact hs i (by omega) (ih (i+1) (by rw[show i+1+m=i+(m+1) by omega];exact hn) (by intro j hj;exact hs j (by omega)))
abbrev u8 (b:UInt8):AV:= .int .u8 (.ofNat b.toNat)
theorem idxB {f:Bool} {s:List UInt8} {i:Nat} {b:UInt8} (hx:s[i]? =some b):indexAddrA Tryz.prog 23 (.fsl f (toBytes s)) (.int .i64 (.ofNat i))=some (.fptr [u8 b] 0):=
 fsl_index (v:=u8 b) (e:=5) (sz:=1) (by kernel_rfl) (by kernel_rfl) (by rw[toBytes_map,List.getElem?_map,hx];rfl) rfl
def eqV (D E:List AV) (i:Nat):View:=⟨[(0,.fsl false D),(1,.fsl false E),(4,.bool false),(12,I (.ofNat (lenN D))),(13,I (.ofNat i))],[],[],0,26⟩
def eqF:View:=⟨[(4,.bool false)],[],[],0,26⟩
def eqA (a b:UInt8):Aid:=aidJ [(6,2,.res (.fptr [u8 a] 0)),(6,6,.res (.fptr [u8 b] 0))] [] noSem [] []
@[simp] abbrev yr1:=(AV.bool false=AV.bool false∧true=true)
@[simp] abbrev yr2 (D:List AV):=(I (Int.ofNat (lenN D))=I (Int.ofNat (lenN D))∧closedA (I (Int.ofNat (lenN D)))=true)
@[simp] abbrev yr3 (D:List AV):=(AV.fsl false D=AV.fsl false D∧closedA (AV.fsl false D)=true)
@[simp] abbrev yr4 (E:List AV):=(AV.fsl false E=AV.fsl false E∧closedA (AV.fsl false E)=true)
theorem eq_round (D E:List AV) (i j:Nat) (a b:UInt8) (N:Prop) (Q:AExit→St→Prop):wpK Tryz.prog opts0 40 (eqA a b) (lpCode Tryz.prog 84 5) (eqV D E i).st (roundP 0 [] (eqV D E j) N [] eqF Q)=
  (mtB (ltInt (Int.ofNat i) (Int.ofNat (lenN D))) (indexAddrA Tryz.prog 23 (AV.fsl false D) (I (Int.ofNat i))=some (AV.fptr [AV.int IntKind.u8 (Int.ofNat a.toNat)] 0)∧indexAddrA Tryz.prog 23 (AV.fsl false E) (I (Int.ofNat i))=some (AV.fptr [AV.int IntKind.u8 (Int.ofNat b.toNat)] 0)∧mtB (!beqInt (Int.ofNat a.toNat) (Int.ofNat b.toNat)) (((yr1∧True)∧True∧True)∧Q AExit.ret eqF.st) ((((yr3 D)∧(yr4 E)∧yr1∧(yr2 D)∧(I (wrapA IntKind.i64 (Int.ofNat i+1))=I (Int.ofNat j)∧closedA (I (Int.ofNat j))=true)∧True)∧True∧True)∧N)) (((yr1∧True)∧True∧True)∧Q (AExit.exit 0) eqF.st)):=by kernel_rfl
def eqL (D E:List AV) (p:Prop) (r:Bool):LoopS:=fun s Q=>p∧seesK 0 [] (eqV D E 0) s∧mtB r (Q (.exit 0) eqF.st) (Q .ret eqF.st)
theorem eq_fn (D E:List AV) (p:Prop) (r:Bool) (Q:AV→Prop):fnK Tryz.prog opts0 40 (aidJ [] [(5,eqL D E p r)] noSem [] []) 84 [.fsl false D,.fsl false E] [] 0 (fun v _ _=>Q v)=
  (mtB (!beqInt (Int.ofNat (lenN D)) (Int.ofNat (lenN E))) (Q (AV.bool false)) (p∧(((yr3 D)∧(yr4 E)∧yr1∧(yr2 D)∧(I 0=I 0∧true=true)∧True)∧True∧True)∧mtB r (Q (AV.bool true)) (Q (AV.bool false)))):=by kernel_rfl
theorem beqBytes_cons (a b:UInt8) (s t:List UInt8):beqBytes (a::s) (b::t)=(Nat.beq a.toNat b.toNat&&beqBytes s t):=by
 rw[Bool.eq_iff_iff,Bool.and_eq_true,beqBytes_iff,beqBytes_iff,beq_iff,List.cons.injEq]
 exact and_congr_left fun _=>⟨fun h=>by rw[h],fun h=>UInt8.toNat_inj.1 h⟩
theorem beqInt_nat (a b:Nat):beqInt (.ofNat a) (.ofNat b)=Nat.beq a b:=rfl
theorem eq_loop {s t:List UInt8} {Q:AExit→St→Prop} (hl:s.length=t.length) (hb:s.length≤big):∀i,i≤s.length→(mtB (beqBytes (s.drop i) (t.drop i)) (Q (.exit 0) eqF.st) (Q .ret eqF.st)→ALp Tryz.prog opts0.glob 0 (lpCode Tryz.prog 84 5) (eqV (toBytes s) (toBytes t) i).st Q):=by
 refine count_up _ (fun hq=> ?_) (fun i hi ih hq=> ?_)
 ·refine ALp.round (A:=eqA 0 0) (V1:=eqV (toBytes s) (toBytes t) 0) (V2:=eqV (toBytes s) (toBytes t) 0) (F:=eqF) (lk:=[]) (lk':=[]) base0 aidJ_ok (LsOk.no rfl) .refl ?_
  rw[eq_round]
  refine mtB_of (fun h=> ?_) (fun _=> ?_)
  ·have h:=ltInt_iff.1 h
   simp only[lenN_toBytes,Int.ofNat_eq_natCast] at h
   omega
  ·rw[List.drop_of_length_le (by omega),List.drop_of_length_le (by omega)] at hq
   exact ⟨by simp,hq⟩
 ·have h2:i<t.length:=by omega
  have g1:=List.getElem?_eq_getElem hi
  have g2:=List.getElem?_eq_getElem h2
  rw[List.drop_eq_getElem_cons hi,List.drop_eq_getElem_cons h2,beqBytes_cons] at hq
  revert g1 g2 hq
  generalize s[i]=a
  generalize t[i]=b
  intro hq g1 g2
  refine ALp.round (A:=eqA a b) (V1:=eqV (toBytes s) (toBytes t) (i+1)) (V2:=eqV (toBytes s) (toBytes t) (i+1)) (F:=eqF) (lk:=[]) (lk':=[]) base0 aidJ_ok (LsOk.no rfl) .refl ?_
  rw[eq_round]
  have hb:s.length≤1099511627776:=hb
  refine mtB_of (fun _=>⟨idxB g1,idxB g2,mtB_of (fun h=> ?_) (fun h=> ?_)⟩) (fun h=> ?_)
  ·rw[beqInt_nat,Bool.not_eq_true'] at h
   rw[h] at hq
   exact ⟨by simp,hq⟩
  ·rw[beqInt_nat,Bool.not_eq_false'] at h
   rw[h] at hq
   rw[wrapA_i64 (by simp;omega) (by simp;omega)]
   exact ⟨by simp[closedA],ih hq⟩
  ·have h:=ltInt_false.1 h
   simp only[lenN_toBytes,Int.ofNat_eq_natCast] at h
   omega
theorem eq_at:loopsAt (fnCode Tryz.prog 84) 5=[lpCode Tryz.prog 84 5]:=by kernel_rfl
theorem beqBytes_len {s t:List UInt8} (h:beqBytes s t=true):s.length=t.length:=by rw[beqBytes_iff.1 h]
theorem equal_sem {s t:List UInt8} (hb:s.length≤big):SC 84 [.fsl false (toBytes s),.fsl false (toBytes t)] (.bool (beqBytes s t)):=by
 refine fnK_semV (A:=aidJ [] [(5,eqL (toBytes s) (toBytes t) (s.length=t.length) (beqBytes s t))] noSem [] []) base0 aidJ_ok
  (fnLs_of (LsOk.at1 rfl eq_at fun s Q hs=> .seen base0.glob hs.2.1 (eq_loop hs.1 hb 0 (by omega) (by simpa using hs.2.2)))) (by simp[closedAll,closedA]) rfl ?_
 rw[eq_fn]
 simp only[lenN_toBytes]
 refine mtB_of (fun e=> ?_) (fun e=>⟨?_,by simp[closedA],mtB_of (fun e6=>by rw[e6]) (fun e6=>by rw[e6])⟩)
 ·refine congrArg AV.bool ?_
  cases h:beqBytes s t with
  |false=>rfl
  |true=>
   rw[beqBytes_len h,Bool.not_eq_true',beqInt_false] at e
   exact absurd rfl e
 ·rw[Bool.not_eq_false',beqInt_iff] at e
  exact Int.ofNat.inj e
def efV (D E:List AV) (i:Nat):View:=⟨[(1,.fsl false E),(2,fnA 33),(6,.bool false),(15,.fsl false D),(16,I (.ofNat (lenN D))),(17,I (.ofNat i))],[],[],0,32⟩
def efF:View:=⟨[(6,.bool false)],[],[],0,32⟩
def efA (c c':List AV) (r:Bool):Aid:=aidJ [(5,1,.res (.fptr c 0)),(6,2,.res (.fptr c' 0))] [] (manyS [(33,.bool r)]) [] []
@[simp] abbrev yr5:=(AV.func (Fn.func 33) [] []=AV.func (Fn.func 33) [] []∧true=true)
theorem ef_round (a b c a' b' c':Int) (D E F K F' K':List AV) (i j:Nat) (r:Bool) (N:Prop) (Q:AExit→St→Prop):wpK Tryz.prog opts0 40 (efA (itF a b c F K) (itF a' b' c' F' K') r) (lpCode Tryz.prog 85 5) (efV D E i).st (roundP 0 [] (efV D E j) N [] efF Q)=
  (mtB (ltInt (Int.ofNat i) (Int.ofNat (lenN D))) (indexAddrA Tryz.prog 35 (AV.fsl false D) (I (Int.ofNat i))=some (AV.fptr [I a,I b,I c,AV.fsl false F,AV.fsl false K] 0)∧indexAddrA Tryz.prog 35 (AV.fsl false E) (I (Int.ofNat i))=some (AV.fptr [I a',I b',I c',AV.fsl false F',AV.fsl false K'] 0)∧SC 33 [AV.agg [I a,I b,I c,AV.fsl false F,AV.fsl false K],AV.agg [I a',I b',I c',AV.fsl false F',AV.fsl false K']] (AV.bool r)∧mtB (!r) (((yr1∧True)∧True∧True)∧Q AExit.ret efF.st) ((((yr4 E)∧yr5∧yr1∧(yr3 D)∧(yr2 D)∧(I (wrapA IntKind.i64 (Int.ofNat i+1))=I (Int.ofNat j)∧closedA (I (Int.ofNat j))=true)∧True)∧True∧True)∧N)) (((yr1∧True)∧True∧True)∧Q (AExit.exit 0) efF.st)):=by kernel_rfl
def efL (D E:List AV) (p:Prop) (r:Bool):LoopS:=fun s Q=>p∧seesK 0 [] (efV D E 0) s∧mtB r (Q (.exit 0) efF.st) (Q .ret efF.st)
theorem ef_fn (D E:List AV) (p:Prop) (r:Bool) (Q:AV→Prop):fnK Tryz.prog opts0 40 (aidJ [] [(5,efL D E p r)] noSem [] []) 85 [.fsl false D,.fsl false E,fnA 33] [] 0 (fun v _ _=>Q v)=
  (mtB (!beqInt (Int.ofNat (lenN D)) (Int.ofNat (lenN E))) (Q (AV.bool false)) (p∧(((yr4 E)∧yr5∧yr1∧(yr3 D)∧(yr2 D)∧(I 0=I 0∧true=true)∧True)∧True∧True)∧mtB r (Q (AV.bool true)) (Q (AV.bool false)))):=by kernel_rfl
theorem ts_fn (a b c a' b' c':Int) (F K F' K':List AV) (r r':Bool) (Q:AV→Prop):fnK Tryz.prog opts0 40 (aidJ [] [] (manyS [(84,.bool r),(85,.bool r')]) [] []) 33 [.agg (itF a b c F K),.agg (itF a' b' c' F' K')] [] 0 (fun v _ _=>Q v)=
  (mtB (beqInt a a') (mtB (beqInt b b') (mtB (beqInt c c') (SC 84 [AV.fsl false F,AV.fsl false F'] (AV.bool r)∧mtB r (SC 85 [AV.fsl false K,AV.fsl false K',AV.func (Fn.func 33) [] []] (AV.bool r')∧Q (AV.bool r')) (Q (AV.bool false))) (Q (AV.bool false))) (Q (AV.bool false))) (Q (AV.bool false))):=by kernel_rfl
theorem ef_loop {ks ks':List It} {Q:AExit→St→Prop} (hl:ks.length=ks'.length) (hb:ks.length≤big)
  (ihs:∀ (i:Nat) (x z:It),ks[i]? =some x→ks'[i]? =some z→SC 33 [itA x,itA z] (.bool (sameI x z))):
  ∀i,i≤ks.length→(mtB (sameIs (ks.drop i) (ks'.drop i)) (Q (.exit 0) efF.st) (Q .ret efF.st)→ALp Tryz.prog opts0.glob 0 (lpCode Tryz.prog 85 5) (efV (itAs ks) (itAs ks') i).st Q):=by
 refine count_up _ (fun hq=> ?_) (fun i hi ih hq=> ?_)
 ·refine ALp.round (A:=efA (itF 0 0 0 [] []) (itF 0 0 0 [] []) true) (V1:=efV (itAs ks) (itAs ks') 0) (V2:=efV (itAs ks) (itAs ks') 0) (F:=efF) (lk:=[]) (lk':=[]) base0 aidJ_ok (LsOk.no rfl) .refl ?_
  rw[ef_round]
  refine mtB_of (fun h=> ?_) (fun _=> ?_)
  ·have h:=ltInt_iff.1 h
   simp only[lenN_eq,its_length,Int.ofNat_eq_natCast] at h
   omega
  ·rw[List.drop_of_length_le (by omega),List.drop_of_length_le (by omega)] at hq
   exact ⟨by simp,hq⟩
 ·have h2:i<ks'.length:=by omega
  have g1:=List.getElem?_eq_getElem hi
  have g2:=List.getElem?_eq_getElem h2
  rw[List.drop_eq_getElem_cons hi,List.drop_eq_getElem_cons h2,sameIs] at hq
  have hs:=ihs i _ _ g1 g2
  revert g1 g2 hq hs
  generalize ks[i]=x
  generalize ks'[i]=z
  intro hq g1 g2 hs
  obtain ⟨a,b,c,e,l⟩:=x
  obtain ⟨a',b',c',e',l'⟩:=z
  refine ALp.round (A:=efA (itF a b c (toBytes e) (itAs l)) (itF a' b' c' (toBytes e') (itAs l')) (sameI (.mk a b c e l) (.mk a' b' c' e' l'))) (V1:=efV (itAs ks) (itAs ks') (i+1)) (V2:=efV (itAs ks) (itAs ks') (i+1)) (F:=efF) (lk:=[]) (lk':=[]) base0 aidJ_ok (LsOk.no rfl) .refl ?_
  rw[ef_round]
  have hb:ks.length≤1099511627776:=hb
  refine mtB_of (fun _=>⟨idxI g1,idxI g2,hs,mtB_of (fun h=> ?_) (fun h=> ?_)⟩) (fun h=> ?_)
  ·rw[Bool.not_eq_true'] at h
   rw[h] at hq
   exact ⟨by simp,hq⟩
  ·rw[Bool.not_eq_false'] at h
   rw[h] at hq
   rw[wrapA_i64 (by simp;omega) (by simp;omega)]
   exact ⟨by simp[closedA,closed_its],ih hq⟩
  ·have h:=ltInt_false.1 h
   simp only[lenN_eq,its_length,Int.ofNat_eq_natCast] at h
   omega
theorem ef_at:loopsAt (fnCode Tryz.prog 85) 5=[lpCode Tryz.prog 85 5]:=by kernel_rfl
theorem ef_sem {ks ks':List It} (hb:ks.length≤big)
  (ihs:∀ (i:Nat) (x z:It),ks[i]? =some x→ks'[i]? =some z→SC 33 [itA x,itA z] (.bool (sameI x z))):
  SC 85 [.fsl false (itAs ks),.fsl false (itAs ks'),fnA 33] (.bool (sameIs ks ks')):=by
 refine fnK_semV (A:=aidJ [] [(5,efL (itAs ks) (itAs ks') (ks.length=ks'.length) (sameIs ks ks'))] noSem [] []) base0 aidJ_ok
  (fnLs_of (LsOk.at1 rfl ef_at fun s Q hs=> .seen base0.glob hs.2.1 (ef_loop hs.1 hb ihs 0 (by omega) (by simpa using hs.2.2)))) (by simp[closedAll,closedA,closed_its,fnA]) rfl ?_
 rw[ef_fn]
 simp only[lenN_eq,its_length]
 refine mtB_of (fun e=> ?_) (fun e=>⟨?_,by simp[closedA,closed_its],mtB_of (fun e6=>by rw[e6]) (fun e6=>by rw[e6])⟩)
 ·refine congrArg AV.bool ?_
  cases h:sameIs ks ks' with
  |false=>rfl
  |true=>
   rw[sameIs_length h,Bool.not_eq_true',beqInt_false] at e
   exact absurd rfl e
 ·rw[Bool.not_eq_false',beqInt_iff] at e
  exact Int.ofNat.inj e
theorem ts_body {t y n t' y' n':Int} {d d':List UInt8} {ks ks':List It} (h:okI big (.mk t y n d ks))
  (ih:∀ (i:Nat) (x z:It),ks[i]? =some x→ks'[i]? =some z→SC 33 [itA x,itA z] (.bool (sameI x z))):
  SC 33 [itA (.mk t y n d ks),itA (.mk t' y' n' d' ks')] (.bool (sameI (.mk t y n d ks) (.mk t' y' n' d' ks'))):=by
 simp only[okI] at h
 obtain ⟨h3,h4,h5⟩:=h
 refine fnK_semV (A:=aidJ [] [] (manyS [(84,.bool (beqBytes d d')),(85,.bool (sameIs ks ks'))]) [] []) base0 aidJ_ok (fnLs_of (LsOk.no rfl)) (by simp[closedAll,closed_it]) rfl ?_
 rw[itA_F,itA_F,ts_fn]
 simp only[sameI]
 refine mtB_of (fun e=>mtB_of (fun e2=>mtB_of (fun e3=>⟨equal_sem h3,mtB_of (fun e4=>⟨ef_sem h4 ih, ?_⟩) (fun e4=> ?_)⟩) (fun e3=> ?_)) (fun e2=> ?_)) (fun e=> ?_)
 all_goals simp only[*,Bool.true_and,Bool.false_and]
mutual
theorem tsame_sem:∀x z:It,okI big x→SC 33 [itA x,itA z] (.bool (sameI x z))
 | .mk _ _ _ _ ks,.mk _ _ _ _ _ks',h=>ts_body h fun _i x z hx _=>tsame_sems ks x (List.mem_of_getElem? hx) z (okIs_iff.1 h.2.2 x (List.mem_of_getElem? hx))
theorem tsame_sems:∀ks:List It,∀x∈ks,∀z,okI big x→SC 33 [itA x,itA z] (.bool (sameI x z))
 |[],_,hx,_,_=>by cases hx
 |k::r,x,hx,z,h=>by
  have h1:=tsame_sem k z
  have h2:=tsame_sems r x
  rcases List.mem_cons.1 hx with e|hx
  ·rw[e] at h⊢;exact h1 h
  ·exact h2 hx z h
end
end
end Go.Proofs.YtjhggnebkfpgcaaGreatDoor
namespace Go.Proofs.YtjhggnebkfpgcaaGreatDoor
set_option maxRecDepth 20000
open Go Go.RowKit
open Go.Proofs.Abs
noncomputable section
def plV0 (s:List UInt8) (C:List AV) (i:Nat):View:=⟨[(1,.str s),(5,.nilsl),(9,.fsl false C),(10,I (.ofNat (lenN C))),(11,I (.ofNat i))],[],[],1,26⟩
def plV1 (s:List UInt8) (C:List AV) (i k:Nat) (es:List AV):View:=⟨[(1,.str s),(9,.fsl false C),(10,I (.ofNat (lenN C))),(11,I (.ofNat i))],[(5,.rsl true 0 0 k 1)],[(0,.cells es,.whole)],1,26⟩
def plA (n t:List UInt8):Aid:=aidJ [(4,1,.res (.fptr [.str n,.str t] 0))] [] noSem [] []
@[simp] abbrev ys1 (C:List AV):=(I (Int.ofNat (lenN C))=I (Int.ofNat (lenN C))∧closedA (I (Int.ofNat (lenN C)))=true)
@[simp] abbrev ys2 (C:List AV):=(AV.fsl false C=AV.fsl false C∧closedA (AV.fsl false C)=true)
@[simp] abbrev ys3 (s:List UInt8):=(AV.str s=AV.str s∧closedA (AV.str s)=true)
@[simp] abbrev ys5:=(AV.nilsl=AV.nilsl∧true=true)
@[simp] abbrev ys6 (i:Nat):=(I (Int.ofNat i)=I (Int.ofNat i)∧closedA (I (Int.ofNat i))=true)
theorem pl_00 (s:List UInt8) (C:List AV) (i j:Nat) (n t:List UInt8) (N:Prop) (Q:AExit→St→Prop):wpK Tryz.prog opts0 40 (plA n t) (lpCode Tryz.prog 151 4) (plV0 s C i).st (roundP 0 [] (plV0 s C j) N [] (plV0 s C i) Q)=
  (mtB (ltInt (Int.ofNat i) (Int.ofNat (lenN C))) (indexAddrA Tryz.prog 29 (AV.fsl false C) (I (Int.ofNat i))=some (AV.fptr [AV.str n,AV.str t] 0)∧mtB (beqBytes n s) ((((ys3 s)∧(AV.rsl true 15 0 (lenN [I (Int.ofNat i)]) 1=AV.nilsl∧true=true)∧(ys2 C)∧(ys1 C)∧(I (wrapA IntKind.i64 (Int.ofNat i+1))=I (Int.ofNat j)∧closedA (I (Int.ofNat j))=true)∧True)∧True∧True)∧N) ((((ys3 s)∧ys5∧(ys2 C)∧(ys1 C)∧(I (wrapA IntKind.i64 (Int.ofNat i+1))=I (Int.ofNat j)∧closedA (I (Int.ofNat j))=true)∧True)∧True∧True)∧N)) ((((ys3 s)∧ys5∧(ys2 C)∧(ys1 C)∧(ys6 i)∧True)∧True∧True)∧Q (AExit.exit 0) (plV0 s C i).st)):=by kernel_rfl
theorem pl_01 (s:List UInt8) (C:List AV) (i j k:Nat) (es:List AV) (n t:List UInt8) (N:Prop) (Q:AExit→St→Prop):wpK Tryz.prog opts0 40 (plA n t) (lpCode Tryz.prog 151 4) (plV0 s C i).st (roundP 0 [(0,15)] (plV1 s C j k es) N [] (plV0 s C i) Q)=
  (mtB (ltInt (Int.ofNat i) (Int.ofNat (lenN C))) (indexAddrA Tryz.prog 29 (AV.fsl false C) (I (Int.ofNat i))=some (AV.fptr [AV.str n,AV.str t] 0)∧mtB (beqBytes n s) ((((ys3 s)∧(ys2 C)∧(ys1 C)∧(I (wrapA IntKind.i64 (Int.ofNat i+1))=I (Int.ofNat j)∧closedA (I (Int.ofNat j))=true)∧True)∧((true=true∧some 15=some 15∧0=0∧k=lenN [I (Int.ofNat i)]∧1=1)∧True)∧(flat [I (Int.ofNat i)]=es∧closedAll es=true)∧True)∧N) ((((ys3 s)∧(ys2 C)∧(ys1 C)∧(I (wrapA IntKind.i64 (Int.ofNat i+1))=I (Int.ofNat j)∧closedA (I (Int.ofNat j))=true)∧True)∧(False∧True)∧False∧True)∧N)) ((((ys3 s)∧ys5∧(ys2 C)∧(ys1 C)∧(ys6 i)∧True)∧True∧True)∧Q (AExit.exit 0) (plV0 s C i).st)):=by kernel_rfl
@[simp] abbrev ys4 (C es:List AV) (Q:AExit→St→Prop) (i k:Nat) (s:List UInt8):=((((ys3 s)∧(ys2 C)∧(ys1 C)∧(ys6 i)∧True)∧((true=true∧some 0=some 0∧0=0∧k=k∧1=1)∧True)∧(es=es∧closedAll es=true)∧True)∧Q (AExit.exit 0) (plV1 s C i k es).st)
theorem pl_10 (s:List UInt8) (C:List AV) (i j k:Nat) (es:List AV) (n t:List UInt8) (N:Prop) (Q:AExit→St→Prop):wpK Tryz.prog opts0 40 (plA n t) (lpCode Tryz.prog 151 4) (plV1 s C i k es).st (roundP 0 [(0,0)] (plV1 s C j k es) N [(0,0)] (plV1 s C i k es) Q)=
  (mtB (ltInt (Int.ofNat i) (Int.ofNat (lenN C))) (indexAddrA Tryz.prog 29 (AV.fsl false C) (I (Int.ofNat i))=some (AV.fptr [AV.str n,AV.str t] 0)∧mtB (beqBytes n s) (oblB (allSize 1 [I (Int.ofNat i)]&&(((k+lenN [I (Int.ofNat i)])*8).ble 140737488355328&&(allOne (flat [I (Int.ofNat i)])&&true))) (oblB ((lenN es).beq (k*1)) ((((ys3 s)∧(ys2 C)∧(ys1 C)∧(I (wrapA IntKind.i64 (Int.ofNat i+1))=I (Int.ofNat j)∧closedA (I (Int.ofNat j))=true)∧True)∧((true=true∧some 0=some 15∧0=0∧k=k+lenN [I (Int.ofNat i)]∧1=1)∧True)∧False∧True)∧N))) ((((ys3 s)∧(ys2 C)∧(ys1 C)∧(I (wrapA IntKind.i64 (Int.ofNat i+1))=I (Int.ofNat j)∧closedA (I (Int.ofNat j))=true)∧True)∧((true=true∧some 0=some 0∧0=0∧k=k∧1=1)∧True)∧(es=es∧closedAll es=true)∧True)∧N)) (ys4 C es Q i k s)):=by kernel_rfl
theorem pl_11 (s:List UInt8) (C:List AV) (i j k k':Nat) (es es':List AV) (n t:List UInt8) (N:Prop) (Q:AExit→St→Prop):wpK Tryz.prog opts0 40 (plA n t) (lpCode Tryz.prog 151 4) (plV1 s C i k es).st (roundP 0 [(0,15)] (plV1 s C j k' es') N [(0,0)] (plV1 s C i k es) Q)=
  (mtB (ltInt (Int.ofNat i) (Int.ofNat (lenN C))) (indexAddrA Tryz.prog 29 (AV.fsl false C) (I (Int.ofNat i))=some (AV.fptr [AV.str n,AV.str t] 0)∧mtB (beqBytes n s) (oblB (allSize 1 [I (Int.ofNat i)]&&(((k+lenN [I (Int.ofNat i)])*8).ble 140737488355328&&(allOne (flat [I (Int.ofNat i)])&&true))) (oblB ((lenN es).beq (k*1)) ((((ys3 s)∧(ys2 C)∧(ys1 C)∧(I (wrapA IntKind.i64 (Int.ofNat i+1))=I (Int.ofNat j)∧closedA (I (Int.ofNat j))=true)∧True)∧((true=true∧some 15=some 15∧0=0∧k'=k+lenN [I (Int.ofNat i)]∧1=1)∧True)∧(es++flat [I (Int.ofNat i)]=es'∧closedAll es'=true)∧True)∧N))) ((((ys3 s)∧(ys2 C)∧(ys1 C)∧(I (wrapA IntKind.i64 (Int.ofNat i+1))=I (Int.ofNat j)∧closedA (I (Int.ofNat j))=true)∧True)∧((true=true∧some 15=some 0∧0=0∧k'=k∧1=1)∧True)∧False∧True)∧N)) (ys4 C es Q i k s)):=by kernel_rfl
def plL (s:List UInt8) (C:List AV) (F:View):LoopS:=fun st Q=>seesK 0 [] (plV0 s C 0) st∧Q (.exit 0) F.st
@[simp] abbrev ys7 (C:List AV) (s:List UInt8):=(((ys3 s)∧ys5∧(ys2 C)∧(ys1 C)∧(I 0=I 0∧true=true)∧True)∧True∧True)
theorem pl_fn0 (o:Ob) (M N L:AV) (s:List UInt8) (C:List AV) (Q:AV→Heap→Nat→Prop):fnK Tryz.prog opts0 40 (aidJ [] [(4,plL s C (plV0 s C (lenN C)))] noSem [] []) 151 [.agg (obF o M N L (.fsl false C)),.str s] [] 0 Q=
  ((ys7 C s)∧Q AV.nilsl [] 3):=by kernel_rfl
theorem pl_fn1 (o:Ob) (M N L:AV) (s:List UInt8) (C:List AV) (k:Nat) (es:List AV) (Q:AV→Heap→Nat→Prop):fnK Tryz.prog opts0 40 (aidJ [] [(4,plL s C (plV1 s C (lenN C) k es))] noSem [] []) 151 [.agg (obF o M N L (.fsl false C)),.str s] [] 0 Q=
  ((ys7 C s)∧Q (AV.rsl true 0 0 k 1) [(0,some (Blk.cells es))] 3):=by kernel_rfl
def placesL (s:List UInt8):List Cu→Nat→List Nat
 |[],_=>[]
 |c::r,k=>match beqBytes c.name s with
  |true=>k::placesL s r (k+1)
  |false=>placesL s r (k+1)
theorem placesL_snoc (s:List UInt8) (c:Cu):∀ (l:List Cu) (k:Nat),placesL s (l++[c]) k=placesL s l k++(match beqBytes c.name s with|true=>[k+l.length]|false=>[])
 |[],k=>by simp only[List.nil_append,placesL];cases beqBytes c.name s<;>simp
 |a::r,k=>by
  have ih:=placesL_snoc s c r (k+1)
  have e:k+1+r.length=k+(r.length+1):=by omega
  rw[e] at ih
  simp only[List.cons_append,placesL,ih,List.length_cons]
  cases beqBytes a.name s<;>simp
theorem take_snoc {α:Type} {l:List α} {i:Nat} {c:α} (h:l[i]? =some c):l.take (i+1)=l.take i++[c]:=by rw[List.take_add_one,h];rfl
theorem lt_of_some {α:Type} {l:List α} {i:Nat} {c:α} (h:l[i]? =some c):i<l.length:=by
 rcases Nat.lt_or_ge i l.length with h'|h'
 ·exact h'
 ·rw[List.getElem?_eq_none h'] at h;cases h
theorem placesL_succ {s:List UInt8} {l:List Cu} {i:Nat} {c:Cu} (h:l[i]? =some c):placesL s (l.take (i+1)) 0=placesL s (l.take i) 0++(match beqBytes c.name s with|true=>[i]|false=>[]):=by
 rw[take_snoc h,placesL_snoc,Nat.zero_add,List.length_take,Nat.min_eq_left (Nat.le_of_lt (lt_of_some h))]
theorem placesL_len (s:List UInt8):∀ (l:List Cu) (k:Nat),(placesL s l k).length≤l.length
 |[],_=>Nat.le_refl _
 |c::r,k=>by
  have:=placesL_len s r (k+1)
  simp only[placesL]
  split<;>simp<;>omega
theorem placesL_lt (s:List UInt8):∀ (l:List Cu) (k:Nat),∀x∈placesL s l k,k≤x∧x<k+l.length
 |[],_,x,h=>by cases h
 | c::r,k,x,h=>by
  have ih:=placesL_lt s r (k+1) x
  simp only[placesL] at h
  simp only[List.length_cons]
  split at h
  ·rcases List.mem_cons.1 h with rfl|h
   ·omega
   ·have:=ih h;omega
  ·have:=ih h;omega
def plV (s:List UInt8) (C:List AV) (i:Nat) (p:List Nat):View:=match p with
 |[]=>plV0 s C i
 |_::_=>plV1 s C i p.length (p.map nI)
theorem idxC {f:Bool} {l:List Cu} {i:Nat} {c:Cu} (hx:l[i]? =some c):indexAddrA Tryz.prog 29 (.fsl f (l.map cuA)) (.int .i64 (.ofNat i))=some (.fptr [.str c.name,.str c.text] 0):=
 fsl_index (v:=cuA c) (e:=101) (sz:=2) (by kernel_rfl) (by kernel_rfl) (by rw[List.getElem?_map,hx];rfl) rfl
theorem closed_nIs:∀p:List Nat,closedAll (p.map nI)=true
 |[]=>rfl
 |_::t=>closed_nIs t
theorem flat_nIs:∀p:List Nat,flat (p.map nI)=p.map nI
 |[]=>rfl
 |x::t=>by simp only[List.map_cons,flat,flat_nIs t];rfl
theorem pl_loop {s:List UInt8} {l:List Cu} {Q:AExit→St→Prop} (hb:l.length≤big) (hq:Q (.exit 0) (plV s (l.map cuA) l.length (placesL s l 0)).st):
    ∀i,i≤l.length→ALp Tryz.prog opts0.glob 0 (lpCode Tryz.prog 151 4) (plV s (l.map cuA) i (placesL s (l.take i) 0)).st Q:=by
  have hlen:lenN (l.map cuA)=l.length:=by rw[lenN_eq,List.length_map]
  have hcl:=closed_cus l
  have hb:l.length≤1099511627776:=hb
  refine count_up _ ?_ (fun i hi ih=> ?_)
  · rw[List.take_length]
    cases hp:placesL s l 0 with
    | nil=>
      rw[hp] at hq
      refine ALp.round (A:=plA [] []) (V1:=plV0 s (l.map cuA) 0) (V2:=plV0 s (l.map cuA) 0) (F:=plV0 s (l.map cuA) l.length) (lk:=[]) (lk':=[]) base0 aidJ_ok (LsOk.no rfl) .refl ?_
      simp only[plV]
      rw[pl_00]
      refine mtB_of (fun h=> ?_) (fun _=>⟨by simp[closedA,hcl],hq⟩)
      have h:=ltInt_iff.1 h
      simp only[hlen,Int.ofNat_eq_natCast] at h
      omega
    | cons a r=>
      rw[hp] at hq
      refine ALp.round (A:=plA [] []) (V1:=plV1 s (l.map cuA) 0 (a::r).length ((a::r).map nI)) (V2:=plV1 s (l.map cuA) 0 (a::r).length ((a::r).map nI)) (F:=plV1 s (l.map cuA) l.length (a::r).length ((a::r).map nI)) (lk:=[(0,0)]) (lk':=[(0,0)]) base0 aidJ_ok (LsOk.no rfl) .refl ?_
      simp only[plV]
      rw[pl_10]
      refine mtB_of (fun h=> ?_) (fun _=>⟨by simp[closedA,hcl,closed_nIs,closedAll,nI],hq⟩)
      have h:=ltInt_iff.1 h
      simp only[hlen,Int.ofNat_eq_natCast] at h
      omega
  · have g1:=List.getElem?_eq_getElem hi
    revert g1
    generalize l[i]=c
    intro g1
    have hs:=placesL_succ (s:=s) g1
    have hw:wrapA .i64 (Int.ofNat i+1)=Int.ofNat (i+1):=wrapA_i64 (by simp;omega) (by simp;omega)
    have hno:ltInt (Int.ofNat i) (Int.ofNat (lenN (l.map cuA)))=false→False:=fun h=>by
      have h:=ltInt_false.1 h
      simp only[hlen,Int.ofNat_eq_natCast] at h
      omega
    have hpl:(placesL s (l.take i) 0).length≤i:=by
      have:=placesL_len s (l.take i) 0
      rw[List.length_take] at this
      omega
    rw[hs] at ih
    clear hs
    revert ih hpl
    generalize placesL s (l.take i) 0=p
    intro ih hpl
    cases hc:beqBytes c.name s with
    | false=>
      rw[hc] at ih
      simp only[List.append_nil] at ih
      cases p with
      | nil=>
        refine ALp.round (A:=plA c.name c.text) (V1:=plV0 s (l.map cuA) (i+1)) (V2:=plV0 s (l.map cuA) (i+1)) (F:=plV0 s (l.map cuA) i) (lk:=[]) (lk':=[]) base0 aidJ_ok (LsOk.no rfl) .refl ?_
        simp only[plV] at ih⊢
        rw[pl_00]
        refine mtB_of (fun _=>⟨idxC g1,mtB_of (fun h=> ?_) (fun _=> ?_)⟩) (fun h=>(hno h).elim)
        · rw[hc] at h;cases h
        · rw[hw]
          exact ⟨by simp[closedA,hcl],ih⟩
      | cons a r=>
        refine ALp.round (A:=plA c.name c.text) (V1:=plV1 s (l.map cuA) (i+1) (a::r).length ((a::r).map nI)) (V2:=plV1 s (l.map cuA) (i+1) (a::r).length ((a::r).map nI)) (F:=plV1 s (l.map cuA) i (a::r).length ((a::r).map nI)) (lk:=[(0,0)]) (lk':=[(0,0)]) base0 aidJ_ok (LsOk.no rfl) .refl ?_
        simp only[plV] at ih⊢
        rw[pl_10]
        refine mtB_of (fun _=>⟨idxC g1,mtB_of (fun h=> ?_) (fun _=> ?_)⟩) (fun h=>(hno h).elim)
        · rw[hc] at h;cases h
        · rw[hw]
          exact ⟨by simp[closedA,hcl,closed_nIs,closedAll,nI],ih⟩
    | true=>
      rw[hc] at ih
      cases p with
      | nil=>
        refine ALp.round (A:=plA c.name c.text) (V1:=plV1 s (l.map cuA) (i+1) 1 [nI i]) (V2:=plV1 s (l.map cuA) (i+1) 1 [nI i]) (F:=plV0 s (l.map cuA) i) (lk:=[(0,15)]) (lk':=[]) base0 aidJ_ok (LsOk.no rfl) .refl ?_
        simp only[plV,List.nil_append] at ih⊢
        rw[pl_01]
        refine mtB_of (fun _=>⟨idxC g1,mtB_of (fun _=> ?_) (fun h=> ?_)⟩) (fun h=>(hno h).elim)
        · rw[hw]
          exact ⟨by simp[closedA,hcl,closedAll,nI,flat,AV.cells,lenN],ih⟩
        · rw[hc] at h;cases h
      | cons a r=>
        refine ALp.round (A:=plA c.name c.text) (V1:=plV1 s (l.map cuA) (i+1) ((a::r)++[i]).length (((a::r)++[i]).map nI)) (V2:=plV1 s (l.map cuA) (i+1) ((a::r)++[i]).length (((a::r)++[i]).map nI)) (F:=plV1 s (l.map cuA) i (a::r).length ((a::r).map nI)) (lk:=[(0,15)]) (lk':=[(0,0)]) base0 aidJ_ok (LsOk.no rfl) .refl ?_
        have ih:ALp Tryz.prog opts0.glob 0 (lpCode Tryz.prog 151 4) (plV1 s (l.map cuA) (i+1) ((a::r)++[i]).length (((a::r)++[i]).map nI)).st Q:=ih
        simp only[plV]
        rw[pl_11]
        refine mtB_of (fun _=>⟨idxC g1,mtB_of (fun _=>oblB_of ?_ (oblB_of ?_ ⟨?_,ih⟩)) (fun h=> ?_)⟩) (fun h=>(hno h).elim)
        · simp[allSize,lenN,AV.cells,flat,allOne]
          simp only[List.length_cons] at hpl
          omega
        · rw[beq_iff,lenN_eq,List.length_map,Nat.mul_one]
        · rw[hw]
          have:=closed_nIs r
          simp[closedA,hcl,closedAll,nI,flat,AV.cells,lenN] at this⊢
          exact closed_snoc r i
        · rw[hc] at h;cases h
 where
  closed_snoc:∀ (r:List Nat) (i:Nat),closedAll (List.map nI r++[AV.int .i64 (i:Int)])=true
    |[],_=>rfl
    |_::t,i=>closed_snoc t i
theorem pl_at:loopsAt (fnCode Tryz.prog 151) 4=[lpCode Tryz.prog 151 4]:=by kernel_rfl
def plcR (b:Nat):List Nat→AV
 |[]=> .nilsl
 |p@(_::_)=> .rsl true b 0 p.length 1
def plcH (b:Nat):List Nat→Heap
 |[]=>[]
 |p@(_::_)=>[(b,some (.cells (p.map nI)))]
theorem closed_obF (o:Ob) {M N L C:AV} (hM:closedA M=true) (hN:closedA N=true) (hL:closedA L=true) (hC:closedA C=true):closedAll (obF o M N L C)=true:=by
 simp only[obF,closedAll,closedA,hM,hN,hL,hC,Bool.and_self]
theorem places_body0 (o:Ob) {M N L:AV} (s:List UInt8) (_hM:closedA M=true) (_hN:closedA N=true) (_hL:closedA L=true) (hb:o.cust.length≤big):
  BodySem Tryz.prog opts0.glob 151 [.agg (obF o M N L (cusA o)),.str s] [] 0 (plcR 0 (placesL s o.cust 0)) (plcH 0 (placesL s o.cust 0)) 3:=by
 have hcl:=closed_cus o.cust
 have hlen:lenN (o.cust.map cuA)=o.cust.length:=by rw[lenN_eq,List.length_map]
 cases hp:placesL s o.cust 0 with
 | nil=>
  refine fnK_bodySem (A:=aidJ [] [(4,plL s (o.cust.map cuA) (plV0 s (o.cust.map cuA) (lenN (o.cust.map cuA))))] noSem [] []) base0 aidJ_ok
   (fnLs_of (LsOk.at1 rfl pl_at fun st Q hs=> .seen base0.glob hs.1 (pl_loop (s:=s) hb (by rw[hp];have:=hs.2;rw[hlen] at this;exact this) 0 (Nat.zero_le _)))) ?_
  simp only[cusA]
  rw[pl_fn0]
  exact ⟨by simp[closedA,hcl],rfl,rfl,rfl⟩
 | cons a r=>
  refine fnK_bodySem (A:=aidJ [] [(4,plL s (o.cust.map cuA) (plV1 s (o.cust.map cuA) (lenN (o.cust.map cuA)) (a::r).length ((a::r).map nI)))] noSem [] []) base0 aidJ_ok
   (fnLs_of (LsOk.at1 rfl pl_at fun st Q hs=> .seen base0.glob hs.1 (pl_loop (s:=s) hb (by rw[hp];have:=hs.2;rw[hlen] at this;exact this) 0 (Nat.zero_le _)))) ?_
  simp only[cusA]
  rw[pl_fn1]
  exact ⟨by simp[closedA,hcl],rfl,rfl,rfl⟩
end
end Go.Proofs.YtjhggnebkfpgcaaGreatDoor
namespace Go.Proofs.YtjhggnebkfpgcaaGreatDoor
open Go Go.RowKit
open Go.Proofs.Abs
structure RowH where
 nm:List UInt8
 ty:Int
 many:Bool
 set:Bool
def rowW (h:RowH) (A1 A2 A3 G R P D RM:AV):List AV:=[.str h.nm,I h.ty,.bool h.many,.bool h.set,A1,A2,A3,G,R,P,D,RM]
def fiT (W:List AV):AV:= .tuple [.agg W,.bool true]
end Go.Proofs.YtjhggnebkfpgcaaGreatDoor
namespace Go.Proofs.YtjhggnebkfpgcaaGreatDoor
set_option maxRecDepth 20000
open Go Go.RowKit
open Go.Proofs.Abs
noncomputable section
def itN:It→Int| .mk _ _ n _ _=>n
def itD:It→List UInt8| .mk _ _ _ d _=>d
def itK:It→List It| .mk _ _ _ _ k=>k
def dateAt (o:Ob):Nat→Dt
 |0=>o.d0
 |1=>o.d1
 |2=>o.d2
 |3=>o.d3
 |4=>o.d4
 |5=>o.d5
 |6=>o.d6
 |7=>o.d7
 |8=>o.d8
 |_=>o.d9
def setDate (o:Ob) (d:Dt):Nat→Ob
 |0=>{o with d0:=d}
 |1=>{o with d1:=d}
 |2=>{o with d2:=d}
 |3=>{o with d3:=d}
 |4=>{o with d4:=d}
 |5=>{o with d5:=d}
 |6=>{o with d6:=d}
 |7=>{o with d7:=d}
 |8=>{o with d8:=d}
 |_=>{o with d9:=d}
def txt (s:List UInt8):It:=vlV 7 0 s []
def numI (y n:Int):It:=vlV y n [] []
def prt (t y n:Int):It:= .mk t y n [] []
def whl (ks:List It):It:=vlV 1 0 [] ks
def lkI (l:Lk):It:=whl [prt 4325451 5 l.ty,.mk 4325452 7 0 l.id []]
def msgI:List UInt8→List It
 |[]=>[]
 |s::t=>[.mk 4325504 7 0 (s::t) []]
def whyI (o:Ob):It:=whl (prt 4325506 5 o.why::msgI o.msg)
def limI (o:Ob):It:=whl [prt 4325527 3 o.lt,prt 4325526 3 o.lc,prt 4325528 5 o.lu]
def oneL (b:Bool) (x:It):List It:=match b with
 |true=>[x]
 |false=>[]
def getK (o:Ob):Kd→List It
 | .uid=>[txt o.id]
 | .nam=>o.names.map txt
 | .typ=>[numI 5 o.ty]
 | .alg=>oneL (!beqInt o.alg 0) (numI 5 o.alg)
 | .len=>oneL (!beqInt o.len 0) (numI 2 o.len)
 | .mask=>[numI 2 o.mask]
 | .sta=>[numI 5 o.st]
 | .dat k=>oneL (dateAt o k).has (numI 9 (dateAt o k).t)
 | .why=>oneL (!beqInt o.why 0) (whyI o)
 | .lnk=>o.links.map lkI
 | .lim=>oneL o.lh (limI o)
 | .cus s=>(o.cust.filter fun c=>beqBytes c.name s).map fun c=>txt c.text
theorem closed_one {l:List AV} (h:closedAll l=true):closedAll [.agg l]=true:=by simp[closedAll,closedA,h]
theorem closed_fslA {f:Bool} {l:List AV} (h:closedAll l=true):closedA (.fsl f l)=true:=h
def inlG:List Nat:=[128,92,131,176]
def inlA:List Nat:=[124,132,133]
theorem g_uid (o:Ob) (M N L C:AV) (Q:AV→Prop):fnK Tryz.prog opts0 40 (aidJ [] [] noSem inlG []) 127 [.agg (obF o M N L C)] [] 0 (fun v _ _=>Q v)=
  (Q (AV.fsl true [AV.agg [I 4325387,I 7,I 0,AV.fsl false (toBytes o.1),AV.nilsl]])):=by kernel_rfl
theorem g_typ (o:Ob) (M N L C:AV) (Q:AV→Prop):fnK Tryz.prog opts0 40 (aidJ [] [] noSem inlG []) 130 [.agg (obF o M N L C)] [] 0 (fun v _ _=>Q v)=
  (Q (AV.fsl true [AV.agg [I 4325387,I 5,I o.2,AV.nilsl,AV.nilsl]])):=by kernel_rfl
theorem g_sta (o:Ob) (M N L C:AV) (Q:AV→Prop):fnK Tryz.prog opts0 40 (aidJ [] [] noSem inlG []) 134 [.agg (obF o M N L C)] [] 0 (fun v _ _=>Q v)=
  (Q (AV.fsl true [AV.agg [I 4325387,I 5,I o.7,AV.nilsl,AV.nilsl]])):=by kernel_rfl
theorem g_lim (o:Ob) (M N L C:AV) (Q:AV→Prop):fnK Tryz.prog opts0 40 (aidJ [] [] noSem inlG []) 184 [.agg (obF o M N L C)] [] 0 (fun v _ _=>Q v)=
  (mtB (!o.23) (Q AV.nilsl) (Q (AV.fsl true [AV.agg [I 4325387,I 1,I 0,AV.nilsl,AV.fsl true [AV.agg [I 4325527,I 3,I o.24,AV.nilsl,AV.nilsl],AV.agg [I 4325526,I 3,I o.25,AV.nilsl,AV.nilsl],AV.agg [I 4325528,I 5,I o.26,AV.nilsl,AV.nilsl]]]]))):=by kernel_rfl
abbrev yv29 (o:Ob):=[AV.agg [I 4325506,I 5,I o.18,AV.nilsl,AV.nilsl]]
abbrev yv7 (o:Ob):=[I 4325387,I 1,I 0,AV.nilsl,AV.rsl true 16 0 (lenN (yv29 o)+lenN [AV.agg [I 4325504,I 7,I 0,AV.fsl false (toBytes o.19),AV.nilsl]]) 5]
abbrev yv15 (o:Ob):=[I 4325387,I 1,I 0,AV.nilsl,AV.fsl true (yv29 o)]
abbrev yv20 (C L M N:AV) (o:Ob):=[(29,some (Blk.cells (yv7 o))),(25,some (Blk.cells (yv7 o))),(16,some (Blk.cells (flat (yv29 o)++flat [AV.agg [I 4325504,I 7,I 0,AV.fsl false (toBytes o.19),AV.nilsl]]))),(0,some (Blk.cells (obF o M N L C)))]
theorem g_why (o:Ob) (M N L C:AV) (Q:AV→Heap→Prop):fnK Tryz.prog opts0 40 (aidJ [] [] noSem inlG []) 138 [.agg (obF o M N L C)] [] 0 (fun v H _=>Q v H)=
  (mtB (!beqBytes o.19 []) (mtB (!!beqInt o.18 0) (Q AV.nilsl (yv20 C L M N o)) (Q (AV.fsl true [AV.agg (yv7 o)]) (yv20 C L M N o))) (mtB (!!beqInt o.18 0) (Q AV.nilsl [(21,some (Blk.cells (yv15 o))),(17,some (Blk.cells (yv15 o))),(0,some (Blk.cells (obF o M N L C)))]) (Q (AV.fsl true [AV.agg (yv15 o)]) [(21,some (Blk.cells (yv15 o))),(17,some (Blk.cells (yv15 o))),(0,some (Blk.cells (obF o M N L C)))]))):=by kernel_rfl
theorem g_alg (o:Ob) (M N L C:AV) (Q:AV→Prop):fnK Tryz.prog opts0 40 (aidJ [] [] noSem inlG inlA) 161 [.agg (obF o M N L C),.fptr [fnA 132] 0,.fptr [I 1] 0,.fptr [I 5] 0] [] 0 (fun v _ _=>Q v)=
  (mtB (!beqInt o.3 0) (Q (AV.fsl true [AV.agg [I 4325387,I 5,I o.3,AV.nilsl,AV.nilsl]])) (Q AV.nilsl)):=by kernel_rfl
theorem g_len (o:Ob) (M N L C:AV) (Q:AV→Prop):fnK Tryz.prog opts0 40 (aidJ [] [] noSem inlG inlA) 161 [.agg (obF o M N L C),.fptr [fnA 133] 0,.fptr [I 1] 0,.fptr [I 2] 0] [] 0 (fun v _ _=>Q v)=
  (mtB (!beqInt o.4 0) (Q (AV.fsl true [AV.agg [I 4325387,I 2,I o.4,AV.nilsl,AV.nilsl]])) (Q AV.nilsl)):=by kernel_rfl
theorem g_mask (o:Ob) (M N L C:AV) (Q:AV→Prop):fnK Tryz.prog opts0 40 (aidJ [] [] noSem inlG inlA) 161 [.agg (obF o M N L C),.fptr [fnA 124] 0,.fptr [I 0] 0,.fptr [I 2] 0] [] 0 (fun v _ _=>Q v)=
  (mtB (!beqInt o.5 0) (Q (AV.fsl true [AV.agg [I 4325387,I 2,I o.5,AV.nilsl,AV.nilsl]])) (Q (AV.fsl true [AV.agg [I 4325387,I 2,I o.5,AV.nilsl,AV.nilsl]]))):=by kernel_rfl
theorem g_dat0 (o:Ob) (M N L C:AV) (Q:AV→Prop):fnK Tryz.prog opts0 40 (aidJ [] [] noSem inlG []) 172 [.agg (obF o M N L C),.fptr [I 0] 0] [] 0 (fun v _ _=>Q v)=
  (mtB (!o.d0.1) (Q AV.nilsl) (Q (AV.fsl true [AV.agg [I 4325387,I 9,I o.d0.2,AV.nilsl,AV.nilsl]]))):=by kernel_rfl
theorem g_dat1 (o:Ob) (M N L C:AV) (Q:AV→Prop):fnK Tryz.prog opts0 40 (aidJ [] [] noSem inlG []) 172 [.agg (obF o M N L C),.fptr [I 1] 0] [] 0 (fun v _ _=>Q v)=
  (mtB (!o.d1.1) (Q AV.nilsl) (Q (AV.fsl true [AV.agg [I 4325387,I 9,I o.d1.2,AV.nilsl,AV.nilsl]]))):=by kernel_rfl
theorem g_dat2 (o:Ob) (M N L C:AV) (Q:AV→Prop):fnK Tryz.prog opts0 40 (aidJ [] [] noSem inlG []) 172 [.agg (obF o M N L C),.fptr [I 2] 0] [] 0 (fun v _ _=>Q v)=
  (mtB (!o.d2.1) (Q AV.nilsl) (Q (AV.fsl true [AV.agg [I 4325387,I 9,I o.d2.2,AV.nilsl,AV.nilsl]]))):=by kernel_rfl
theorem g_dat3 (o:Ob) (M N L C:AV) (Q:AV→Prop):fnK Tryz.prog opts0 40 (aidJ [] [] noSem inlG []) 172 [.agg (obF o M N L C),.fptr [I 3] 0] [] 0 (fun v _ _=>Q v)=
  (mtB (!o.d3.1) (Q AV.nilsl) (Q (AV.fsl true [AV.agg [I 4325387,I 9,I o.d3.2,AV.nilsl,AV.nilsl]]))):=by kernel_rfl
theorem g_dat4 (o:Ob) (M N L C:AV) (Q:AV→Prop):fnK Tryz.prog opts0 40 (aidJ [] [] noSem inlG []) 172 [.agg (obF o M N L C),.fptr [I 4] 0] [] 0 (fun v _ _=>Q v)=
  (mtB (!o.d4.1) (Q AV.nilsl) (Q (AV.fsl true [AV.agg [I 4325387,I 9,I o.d4.2,AV.nilsl,AV.nilsl]]))):=by kernel_rfl
theorem g_dat5 (o:Ob) (M N L C:AV) (Q:AV→Prop):fnK Tryz.prog opts0 40 (aidJ [] [] noSem inlG []) 172 [.agg (obF o M N L C),.fptr [I 5] 0] [] 0 (fun v _ _=>Q v)=
  (mtB (!o.d5.1) (Q AV.nilsl) (Q (AV.fsl true [AV.agg [I 4325387,I 9,I o.d5.2,AV.nilsl,AV.nilsl]]))):=by kernel_rfl
theorem g_dat6 (o:Ob) (M N L C:AV) (Q:AV→Prop):fnK Tryz.prog opts0 40 (aidJ [] [] noSem inlG []) 172 [.agg (obF o M N L C),.fptr [I 6] 0] [] 0 (fun v _ _=>Q v)=
  (mtB (!o.d6.1) (Q AV.nilsl) (Q (AV.fsl true [AV.agg [I 4325387,I 9,I o.d6.2,AV.nilsl,AV.nilsl]]))):=by kernel_rfl
theorem g_dat7 (o:Ob) (M N L C:AV) (Q:AV→Prop):fnK Tryz.prog opts0 40 (aidJ [] [] noSem inlG []) 172 [.agg (obF o M N L C),.fptr [I 7] 0] [] 0 (fun v _ _=>Q v)=
  (mtB (!o.d7.1) (Q AV.nilsl) (Q (AV.fsl true [AV.agg [I 4325387,I 9,I o.d7.2,AV.nilsl,AV.nilsl]]))):=by kernel_rfl
theorem g_dat8 (o:Ob) (M N L C:AV) (Q:AV→Prop):fnK Tryz.prog opts0 40 (aidJ [] [] noSem inlG []) 172 [.agg (obF o M N L C),.fptr [I 8] 0] [] 0 (fun v _ _=>Q v)=
  (mtB (!o.d8.1) (Q AV.nilsl) (Q (AV.fsl true [AV.agg [I 4325387,I 9,I o.d8.2,AV.nilsl,AV.nilsl]]))):=by kernel_rfl
theorem g_dat9 (o:Ob) (M N L C:AV) (Q:AV→Prop):fnK Tryz.prog opts0 40 (aidJ [] [] noSem inlG []) 172 [.agg (obF o M N L C),.fptr [I 9] 0] [] 0 (fun v _ _=>Q v)=
  (mtB (!o.d9.1) (Q AV.nilsl) (Q (AV.fsl true [AV.agg [I 4325387,I 9,I o.d9.2,AV.nilsl,AV.nilsl]]))):=by kernel_rfl
theorem gN0_fn (o:Ob) (M L C:AV) (Q:AV→Heap→Prop):fnK Tryz.prog opts0 40 (aidJ [] [] noSem inlG []) 166 [.agg (obF o M (.fsl false []) L C)] [] 0 (fun v H _=>Q v H)=
  (Q AV.nilsl [(0,some (Blk.cells (obF o M (AV.fsl false []) L C)))]):=by kernel_rfl
abbrev yv9 (a:List UInt8):=[I 4325387,I 7,I 0,AV.fsl false (toBytes a),AV.nilsl]
theorem gN1_fn (o:Ob) (M L C:AV) (a:List UInt8) (Q:AV→Heap→Prop):fnK Tryz.prog opts0 40 (aidJ [] [] noSem inlG []) 166 [.agg (obF o M (.fsl false [.str a]) L C)] [] 0 (fun v H _=>Q v H)=
  (Q (AV.rsl true 15 0 (lenN [AV.agg (yv9 a)]) 5) [(17,some (Blk.cells (yv9 a))),(15,some (Blk.cells (flat [AV.agg (yv9 a)]))),(0,some (Blk.cells (obF o M (AV.fsl false [AV.str a]) L C)))]):=by kernel_rfl
abbrev yv13 (b:List UInt8):=[I 4325387,I 7,I 0,AV.fsl false (toBytes b),AV.nilsl]
theorem gN2_fn (o:Ob) (M L C:AV) (a b:List UInt8) (Q:AV→Heap→Prop):fnK Tryz.prog opts0 40 (aidJ [] [] noSem inlG []) 166 [.agg (obF o M (.fsl false [.str a,.str b]) L C)] [] 0 (fun v H _=>Q v H)=
  (Q (AV.rsl true 32 0 (lenN [AV.agg (yv9 a)]+lenN [AV.agg (yv13 b)]) 5) [(34,some (Blk.cells (yv13 b))),(32,some (Blk.cells [I 4325387,I 7,I 0,AV.fsl false (toBytes a),AV.nilsl,I 4325387,I 7,I 0,AV.fsl false (toBytes b),AV.nilsl])),(17,some (Blk.cells (yv9 a))),(15,none),(0,some (Blk.cells (obF o M (AV.fsl false [AV.str a,AV.str b]) L C)))]):=by kernel_rfl
abbrev yv16 (c:List UInt8):=[I 4325387,I 7,I 0,AV.fsl false (toBytes c),AV.nilsl]
theorem gN3_fn (o:Ob) (M L C:AV) (a b c:List UInt8) (Q:AV→Heap→Prop):fnK Tryz.prog opts0 40 (aidJ [] [] noSem inlG []) 166 [.agg (obF o M (.fsl false [.str a,.str b,.str c]) L C)] [] 0 (fun v H _=>Q v H)=
  (Q (AV.rsl true 49 0 (lenN [AV.agg (yv9 a)]+lenN [AV.agg (yv13 b)]+lenN [AV.agg (yv16 c)]) 5) [(51,some (Blk.cells (yv16 c))),(49,some (Blk.cells [I 4325387,I 7,I 0,AV.fsl false (toBytes a),AV.nilsl,I 4325387,I 7,I 0,AV.fsl false (toBytes b),AV.nilsl,I 4325387,I 7,I 0,AV.fsl false (toBytes c),AV.nilsl])),(34,some (Blk.cells (yv13 b))),(32,none),(17,some (Blk.cells (yv9 a))),(15,none),(0,some (Blk.cells (obF o M (AV.fsl false [AV.str a,AV.str b,AV.str c]) L C)))]):=by kernel_rfl
abbrev yv18 (d:List UInt8):=[I 4325387,I 7,I 0,AV.fsl false (toBytes d),AV.nilsl]
theorem gN4_fn (o:Ob) (M L C:AV) (a b c d:List UInt8) (Q:AV→Heap→Prop):fnK Tryz.prog opts0 40 (aidJ [] [] noSem inlG []) 166 [.agg (obF o M (.fsl false [.str a,.str b,.str c,.str d]) L C)] [] 0 (fun v H _=>Q v H)=
  (Q (AV.rsl true 66 0 (lenN [AV.agg (yv9 a)]+lenN [AV.agg (yv13 b)]+lenN [AV.agg (yv16 c)]+lenN [AV.agg (yv18 d)]) 5) [(68,some (Blk.cells (yv18 d))),(66,some (Blk.cells [I 4325387,I 7,I 0,AV.fsl false (toBytes a),AV.nilsl,I 4325387,I 7,I 0,AV.fsl false (toBytes b),AV.nilsl,I 4325387,I 7,I 0,AV.fsl false (toBytes c),AV.nilsl,I 4325387,I 7,I 0,AV.fsl false (toBytes d),AV.nilsl])),(51,some (Blk.cells (yv16 c))),(49,none),(34,some (Blk.cells (yv13 b))),(32,none),(17,some (Blk.cells (yv9 a))),(15,none),(0,some (Blk.cells (obF o M (AV.fsl false [AV.str a,AV.str b,AV.str c,AV.str d]) L C)))]):=by kernel_rfl
abbrev yv25 (e:List UInt8):=[I 4325387,I 7,I 0,AV.fsl false (toBytes e),AV.nilsl]
theorem gN5_fn (o:Ob) (M L C:AV) (a b c d e:List UInt8) (Q:AV→Heap→Prop):fnK Tryz.prog opts0 40 (aidJ [] [] noSem inlG []) 166 [.agg (obF o M (.fsl false [.str a,.str b,.str c,.str d,.str e]) L C)] [] 0 (fun v H _=>Q v H)=
  (Q (AV.rsl true 83 0 (lenN [AV.agg (yv9 a)]+lenN [AV.agg (yv13 b)]+lenN [AV.agg (yv16 c)]+lenN [AV.agg (yv18 d)]+lenN [AV.agg (yv25 e)]) 5) [(85,some (Blk.cells (yv25 e))),(83,some (Blk.cells [I 4325387,I 7,I 0,AV.fsl false (toBytes a),AV.nilsl,I 4325387,I 7,I 0,AV.fsl false (toBytes b),AV.nilsl,I 4325387,I 7,I 0,AV.fsl false (toBytes c),AV.nilsl,I 4325387,I 7,I 0,AV.fsl false (toBytes d),AV.nilsl,I 4325387,I 7,I 0,AV.fsl false (toBytes e),AV.nilsl])),(68,some (Blk.cells (yv18 d))),(66,none),(51,some (Blk.cells (yv16 c))),(49,none),(34,some (Blk.cells (yv13 b))),(32,none),(17,some (Blk.cells (yv9 a))),(15,none),(0,some (Blk.cells (obF o M (AV.fsl false [AV.str a,AV.str b,AV.str c,AV.str d,AV.str e]) L C)))]):=by kernel_rfl
theorem gN6_fn (o:Ob) (M L C:AV) (a b c d e f:List UInt8) (Q:AV→Heap→Prop):fnK Tryz.prog opts0 40 (aidJ [] [] noSem inlG []) 166 [.agg (obF o M (.fsl false [.str a,.str b,.str c,.str d,.str e,.str f]) L C)] [] 0 (fun v H _=>Q v H)=
  (Q (AV.rsl true 100 0 (lenN [AV.agg (yv9 a)]+lenN [AV.agg (yv13 b)]+lenN [AV.agg (yv16 c)]+lenN [AV.agg (yv18 d)]+lenN [AV.agg (yv25 e)]+lenN [AV.agg [I 4325387,I 7,I 0,AV.fsl false (toBytes f),AV.nilsl]]) 5) [(102,some (Blk.cells [I 4325387,I 7,I 0,AV.fsl false (toBytes f),AV.nilsl])),(100,some (Blk.cells [I 4325387,I 7,I 0,AV.fsl false (toBytes a),AV.nilsl,I 4325387,I 7,I 0,AV.fsl false (toBytes b),AV.nilsl,I 4325387,I 7,I 0,AV.fsl false (toBytes c),AV.nilsl,I 4325387,I 7,I 0,AV.fsl false (toBytes d),AV.nilsl,I 4325387,I 7,I 0,AV.fsl false (toBytes e),AV.nilsl,I 4325387,I 7,I 0,AV.fsl false (toBytes f),AV.nilsl])),(85,some (Blk.cells (yv25 e))),(83,none),(68,some (Blk.cells (yv18 d))),(66,none),(51,some (Blk.cells (yv16 c))),(49,none),(34,some (Blk.cells (yv13 b))),(32,none),(17,some (Blk.cells (yv9 a))),(15,none),(0,some (Blk.cells (obF o M (AV.fsl false [AV.str a,AV.str b,AV.str c,AV.str d,AV.str e,AV.str f]) L C)))]):=by kernel_rfl
def rawN (x:List UInt8):AV:= .agg [I 4325387,I 7,I 0,.fsl false (toBytes x),.nilsl]
theorem closed_rawN:∀l:List (List UInt8),closedAll (l.map rawN)=true
 |[]=>rfl
 |x::r=>by
  rw[List.map_cons,closedAll,closed_rawN r]
  simp[rawN,closedA,closedAll]
theorem good_rawN:∀l:List (List UInt8),∀e∈l.map rawN,goodEl 5 e:=fun l e he=>by
 obtain ⟨x,_,rfl⟩:=List.mem_map.1 he
 exact ⟨rfl,rfl⟩
theorem wk_rawN (l:List (List UInt8)):Wk (.fsl false (l.map rawN)) (.fsl false (itAs (l.map txt))):=by
 rw[itAs_map,List.map_map]
 refine Wk.rows (WkE.map fun x _=> ?_)
 simp only[rawN,Function.comp,txt,vlV,itA,itAs,AV.cells]
 (repeat (first|exact Wk.refl _|exact WkL.refl _|exact Wk.nil|exact Wk.row|exact WkE.refl _|exact WkL.nil|exact WkE.nil|apply Wk.agg|apply Wk.tuple|apply WkL.cons|apply Wk.rows|apply WkE.consA))
theorem gN1_sem (o:Ob) {M L C:AV} (hM:closedA M=true) (hL:closedA L=true) (hC:closedA C=true) (a:List UInt8):SC 166 [.agg (obF o M (.fsl false [.str a]) L C)] (.fsl false (itAs ([a].map txt))):=by
 refine fnK_semX (A:=aidJ [] [] noSem inlG []) base0 aidJ_ok (fnLs_of (LsOk.no rfl)) (closed_one (closed_obF o hM (closed_fslA (closed_strs [a])) hL hC)) ?_
 rw[gN1_fn]
 exact ⟨.fsl false ([a].map rawN),Frz.out (Frz.row (c:=flat ([a].map rawN)) (es:=[a].map rawN) (by kernel_rfl) (by kernel_rfl) rfl (by kernel_rfl) (good_rawN _) (closed_rawN _)),closed_fslA (closed_rawN _),wk_rawN [a]⟩
theorem gN2_sem (o:Ob) {M L C:AV} (hM:closedA M=true) (hL:closedA L=true) (hC:closedA C=true) (a b:List UInt8):SC 166 [.agg (obF o M (.fsl false [.str a,.str b]) L C)] (.fsl false (itAs ([a,b].map txt))):=by
 refine fnK_semX (A:=aidJ [] [] noSem inlG []) base0 aidJ_ok (fnLs_of (LsOk.no rfl)) (closed_one (closed_obF o hM (closed_fslA (closed_strs [a,b])) hL hC)) ?_
 rw[gN2_fn]
 exact ⟨.fsl false ([a,b].map rawN),Frz.out (Frz.row (c:=flat ([a,b].map rawN)) (es:=[a,b].map rawN) (by kernel_rfl) (by kernel_rfl) rfl (by kernel_rfl) (good_rawN _) (closed_rawN _)),closed_fslA (closed_rawN _),wk_rawN [a,b]⟩
theorem gN3_sem (o:Ob) {M L C:AV} (hM:closedA M=true) (hL:closedA L=true) (hC:closedA C=true) (a b c:List UInt8):SC 166 [.agg (obF o M (.fsl false [.str a,.str b,.str c]) L C)] (.fsl false (itAs ([a,b,c].map txt))):=by
 refine fnK_semX (A:=aidJ [] [] noSem inlG []) base0 aidJ_ok (fnLs_of (LsOk.no rfl)) (closed_one (closed_obF o hM (closed_fslA (closed_strs [a,b,c])) hL hC)) ?_
 rw[gN3_fn]
 exact ⟨.fsl false ([a,b,c].map rawN),Frz.out (Frz.row (c:=flat ([a,b,c].map rawN)) (es:=[a,b,c].map rawN) (by kernel_rfl) (by kernel_rfl) rfl (by kernel_rfl) (good_rawN _) (closed_rawN _)),closed_fslA (closed_rawN _),wk_rawN [a,b,c]⟩
theorem gN4_sem (o:Ob) {M L C:AV} (hM:closedA M=true) (hL:closedA L=true) (hC:closedA C=true) (a b c d:List UInt8):SC 166 [.agg (obF o M (.fsl false [.str a,.str b,.str c,.str d]) L C)] (.fsl false (itAs ([a,b,c,d].map txt))):=by
 refine fnK_semX (A:=aidJ [] [] noSem inlG []) base0 aidJ_ok (fnLs_of (LsOk.no rfl)) (closed_one (closed_obF o hM (closed_fslA (closed_strs [a,b,c,d])) hL hC)) ?_
 rw[gN4_fn]
 exact ⟨.fsl false ([a,b,c,d].map rawN),Frz.out (Frz.row (c:=flat ([a,b,c,d].map rawN)) (es:=[a,b,c,d].map rawN) (by kernel_rfl) (by kernel_rfl) rfl (by kernel_rfl) (good_rawN _) (closed_rawN _)),closed_fslA (closed_rawN _),wk_rawN [a,b,c,d]⟩
theorem gN5_sem (o:Ob) {M L C:AV} (hM:closedA M=true) (hL:closedA L=true) (hC:closedA C=true) (a b c d e:List UInt8):SC 166 [.agg (obF o M (.fsl false [.str a,.str b,.str c,.str d,.str e]) L C)] (.fsl false (itAs ([a,b,c,d,e].map txt))):=by
 refine fnK_semX (A:=aidJ [] [] noSem inlG []) base0 aidJ_ok (fnLs_of (LsOk.no rfl)) (closed_one (closed_obF o hM (closed_fslA (closed_strs [a,b,c,d,e])) hL hC)) ?_
 rw[gN5_fn]
 exact ⟨.fsl false ([a,b,c,d,e].map rawN),Frz.out (Frz.row (c:=flat ([a,b,c,d,e].map rawN)) (es:=[a,b,c,d,e].map rawN) (by kernel_rfl) (by kernel_rfl) rfl (by kernel_rfl) (good_rawN _) (closed_rawN _)),closed_fslA (closed_rawN _),wk_rawN [a,b,c,d,e]⟩
theorem gN6_sem (o:Ob) {M L C:AV} (hM:closedA M=true) (hL:closedA L=true) (hC:closedA C=true) (a b c d e f:List UInt8):SC 166 [.agg (obF o M (.fsl false [.str a,.str b,.str c,.str d,.str e,.str f]) L C)] (.fsl false (itAs ([a,b,c,d,e,f].map txt))):=by
 refine fnK_semX (A:=aidJ [] [] noSem inlG []) base0 aidJ_ok (fnLs_of (LsOk.no rfl)) (closed_one (closed_obF o hM (closed_fslA (closed_strs [a,b,c,d,e,f])) hL hC)) ?_
 rw[gN6_fn]
 exact ⟨.fsl false ([a,b,c,d,e,f].map rawN),Frz.out (Frz.row (c:=flat ([a,b,c,d,e,f].map rawN)) (es:=[a,b,c,d,e,f].map rawN) (by kernel_rfl) (by kernel_rfl) rfl (by kernel_rfl) (good_rawN _) (closed_rawN _)),closed_fslA (closed_rawN _),wk_rawN [a,b,c,d,e,f]⟩
theorem gN0_sem (o:Ob) {M L C:AV} (hM:closedA M=true) (hL:closedA L=true) (hC:closedA C=true):SC 166 [.agg (obF o M (.fsl false []) L C)] (.fsl false []):=by
 refine fnK_semX (A:=aidJ [] [] noSem inlG []) base0 aidJ_ok (fnLs_of (LsOk.no rfl)) (closed_one (closed_obF o hM rfl hL hC)) ?_
 rw[gN0_fn]
 exact ⟨.nilsl,⟨1,rfl⟩,rfl,.nil⟩
theorem gN_sem (o:Ob) {M L C:AV} (hM:closedA M=true) (hL:closedA L=true) (hC:closedA C=true):∀l:List (List UInt8),l.length≤6→SC 166 [.agg (obF o M (.fsl false (l.map .str)) L C)] (.fsl false (itAs (l.map txt)))
 |[],_=>gN0_sem o hM hL hC
 |[a],_=>gN1_sem o hM hL hC a
 |[a,b],_=>gN2_sem o hM hL hC a b
 |[a,b,c],_=>gN3_sem o hM hL hC a b c
 |[a,b,c,d],_=>gN4_sem o hM hL hC a b c d
 |[a,b,c,d,e],_=>gN5_sem o hM hL hC a b c d e
 |[a,b,c,d,e,f],_=>gN6_sem o hM hL hC a b c d e f
 |_::_::_::_::_::_::_::_,h=>absurd h (by simp)
theorem gL0_fn (o:Ob) (M N C:AV) (Q:AV→Heap→Prop):fnK Tryz.prog opts0 40 (aidJ [] [] noSem inlG []) 178 [.agg (obF o M N (.fsl false []) C)] [] 0 (fun v H _=>Q v H)=
  (Q AV.nilsl [(0,some (Blk.cells (obF o M N (AV.fsl false []) C)))]):=by kernel_rfl
abbrev yv1 (a:Lk):=[AV.agg [I 4325451,I 5,I a.1,AV.nilsl,AV.nilsl],AV.agg [I 4325452,I 7,I 0,AV.fsl false (toBytes a.2),AV.nilsl]]
abbrev yv8 (a:Lk):=[I 4325387,I 1,I 0,AV.nilsl,AV.fsl true (yv1 a)]
abbrev yv19 (a:Lk):=(10,some (Blk.cells [I a.1,AV.str a.2]))
theorem gL1_fn (o:Ob) (M N C:AV) (a:Lk) (Q:AV→Heap→Prop):fnK Tryz.prog opts0 40 (aidJ [] [] noSem inlG []) 178 [.agg (obF o M N (.fsl false [lkA a]) C)] [] 0 (fun v H _=>Q v H)=
  (Q (AV.rsl true 23 0 (lenN [AV.agg (yv8 a)]) 5) [(25,some (Blk.cells (yv8 a))),(23,some (Blk.cells (flat [AV.agg (yv8 a)]))),(yv19 a),(0,some (Blk.cells (obF o M N (AV.fsl false [AV.agg [I a.1,AV.str a.2]]) C)))]):=by kernel_rfl
abbrev yv2 (b:Lk):=[AV.agg [I 4325451,I 5,I b.1,AV.nilsl,AV.nilsl],AV.agg [I 4325452,I 7,I 0,AV.fsl false (toBytes b.2),AV.nilsl]]
abbrev yv10 (b:Lk):=[I 4325387,I 1,I 0,AV.nilsl,AV.fsl true (yv2 b)]
abbrev yv23 (b:Lk):=(34,some (Blk.cells [I b.1,AV.str b.2]))
theorem gL2_fn (o:Ob) (M N C:AV) (a b:Lk) (Q:AV→Heap→Prop):fnK Tryz.prog opts0 40 (aidJ [] [] noSem inlG []) 178 [.agg (obF o M N (.fsl false [lkA a,lkA b]) C)] [] 0 (fun v H _=>Q v H)=
  (Q (AV.rsl true 47 0 (lenN [AV.agg (yv8 a)]+lenN [AV.agg (yv10 b)]) 5) [(49,some (Blk.cells (yv10 b))),(47,some (Blk.cells [I 4325387,I 1,I 0,AV.nilsl,AV.fsl true (yv1 a),I 4325387,I 1,I 0,AV.nilsl,AV.fsl true (yv2 b)])),(yv23 b),(25,some (Blk.cells (yv8 a))),(23,none),(yv19 a),(0,some (Blk.cells (obF o M N (AV.fsl false [AV.agg [I a.1,AV.str a.2],AV.agg [I b.1,AV.str b.2]]) C)))]):=by kernel_rfl
abbrev yv3 (c:Lk):=[AV.agg [I 4325451,I 5,I c.1,AV.nilsl,AV.nilsl],AV.agg [I 4325452,I 7,I 0,AV.fsl false (toBytes c.2),AV.nilsl]]
abbrev yv12 (c:Lk):=[I 4325387,I 1,I 0,AV.nilsl,AV.fsl true (yv3 c)]
abbrev yv24 (c:Lk):=(58,some (Blk.cells [I c.1,AV.str c.2]))
theorem gL3_fn (o:Ob) (M N C:AV) (a b c:Lk) (Q:AV→Heap→Prop):fnK Tryz.prog opts0 40 (aidJ [] [] noSem inlG []) 178 [.agg (obF o M N (.fsl false [lkA a,lkA b,lkA c]) C)] [] 0 (fun v H _=>Q v H)=
  (Q (AV.rsl true 71 0 (lenN [AV.agg (yv8 a)]+lenN [AV.agg (yv10 b)]+lenN [AV.agg (yv12 c)]) 5) [(73,some (Blk.cells (yv12 c))),(71,some (Blk.cells [I 4325387,I 1,I 0,AV.nilsl,AV.fsl true (yv1 a),I 4325387,I 1,I 0,AV.nilsl,AV.fsl true (yv2 b),I 4325387,I 1,I 0,AV.nilsl,AV.fsl true (yv3 c)])),(yv24 c),(49,some (Blk.cells (yv10 b))),(47,none),(yv23 b),(25,some (Blk.cells (yv8 a))),(23,none),(yv19 a),(0,some (Blk.cells (obF o M N (AV.fsl false [AV.agg [I a.1,AV.str a.2],AV.agg [I b.1,AV.str b.2],AV.agg [I c.1,AV.str c.2]]) C)))]):=by kernel_rfl
abbrev yv4 (d:Lk):=[AV.agg [I 4325451,I 5,I d.1,AV.nilsl,AV.nilsl],AV.agg [I 4325452,I 7,I 0,AV.fsl false (toBytes d.2),AV.nilsl]]
abbrev yv14 (d:Lk):=[I 4325387,I 1,I 0,AV.nilsl,AV.fsl true (yv4 d)]
abbrev yv26 (d:Lk):=(82,some (Blk.cells [I d.1,AV.str d.2]))
theorem gL4_fn (o:Ob) (M N C:AV) (a b c d:Lk) (Q:AV→Heap→Prop):fnK Tryz.prog opts0 40 (aidJ [] [] noSem inlG []) 178 [.agg (obF o M N (.fsl false [lkA a,lkA b,lkA c,lkA d]) C)] [] 0 (fun v H _=>Q v H)=
  (Q (AV.rsl true 95 0 (lenN [AV.agg (yv8 a)]+lenN [AV.agg (yv10 b)]+lenN [AV.agg (yv12 c)]+lenN [AV.agg (yv14 d)]) 5) [(97,some (Blk.cells (yv14 d))),(95,some (Blk.cells [I 4325387,I 1,I 0,AV.nilsl,AV.fsl true (yv1 a),I 4325387,I 1,I 0,AV.nilsl,AV.fsl true (yv2 b),I 4325387,I 1,I 0,AV.nilsl,AV.fsl true (yv3 c),I 4325387,I 1,I 0,AV.nilsl,AV.fsl true (yv4 d)])),(yv26 d),(73,some (Blk.cells (yv12 c))),(71,none),(yv24 c),(49,some (Blk.cells (yv10 b))),(47,none),(yv23 b),(25,some (Blk.cells (yv8 a))),(23,none),(yv19 a),(0,some (Blk.cells (obF o M N (AV.fsl false [AV.agg [I a.1,AV.str a.2],AV.agg [I b.1,AV.str b.2],AV.agg [I c.1,AV.str c.2],AV.agg [I d.1,AV.str d.2]]) C)))]):=by kernel_rfl
abbrev yv5 (e:Lk):=[AV.agg [I 4325451,I 5,I e.1,AV.nilsl,AV.nilsl],AV.agg [I 4325452,I 7,I 0,AV.fsl false (toBytes e.2),AV.nilsl]]
abbrev yv17 (e:Lk):=[I 4325387,I 1,I 0,AV.nilsl,AV.fsl true (yv5 e)]
abbrev yv28 (e:Lk):=(106,some (Blk.cells [I e.1,AV.str e.2]))
theorem gL5_fn (o:Ob) (M N C:AV) (a b c d e:Lk) (Q:AV→Heap→Prop):fnK Tryz.prog opts0 40 (aidJ [] [] noSem inlG []) 178 [.agg (obF o M N (.fsl false [lkA a,lkA b,lkA c,lkA d,lkA e]) C)] [] 0 (fun v H _=>Q v H)=
  (Q (AV.rsl true 119 0 (lenN [AV.agg (yv8 a)]+lenN [AV.agg (yv10 b)]+lenN [AV.agg (yv12 c)]+lenN [AV.agg (yv14 d)]+lenN [AV.agg (yv17 e)]) 5) [(121,some (Blk.cells (yv17 e))),(119,some (Blk.cells [I 4325387,I 1,I 0,AV.nilsl,AV.fsl true (yv1 a),I 4325387,I 1,I 0,AV.nilsl,AV.fsl true (yv2 b),I 4325387,I 1,I 0,AV.nilsl,AV.fsl true (yv3 c),I 4325387,I 1,I 0,AV.nilsl,AV.fsl true (yv4 d),I 4325387,I 1,I 0,AV.nilsl,AV.fsl true (yv5 e)])),(yv28 e),(97,some (Blk.cells (yv14 d))),(95,none),(yv26 d),(73,some (Blk.cells (yv12 c))),(71,none),(yv24 c),(49,some (Blk.cells (yv10 b))),(47,none),(yv23 b),(25,some (Blk.cells (yv8 a))),(23,none),(yv19 a),(0,some (Blk.cells (obF o M N (AV.fsl false [AV.agg [I a.1,AV.str a.2],AV.agg [I b.1,AV.str b.2],AV.agg [I c.1,AV.str c.2],AV.agg [I d.1,AV.str d.2],AV.agg [I e.1,AV.str e.2]]) C)))]):=by kernel_rfl
abbrev yv6 (f:Lk):=[AV.agg [I 4325451,I 5,I f.1,AV.nilsl,AV.nilsl],AV.agg [I 4325452,I 7,I 0,AV.fsl false (toBytes f.2),AV.nilsl]]
abbrev yv22 (f:Lk):=[I 4325387,I 1,I 0,AV.nilsl,AV.fsl true (yv6 f)]
abbrev yv30 (f:Lk):=(130,some (Blk.cells [I f.1,AV.str f.2]))
theorem gL6_fn (o:Ob) (M N C:AV) (a b c d e f:Lk) (Q:AV→Heap→Prop):fnK Tryz.prog opts0 40 (aidJ [] [] noSem inlG []) 178 [.agg (obF o M N (.fsl false [lkA a,lkA b,lkA c,lkA d,lkA e,lkA f]) C)] [] 0 (fun v H _=>Q v H)=
  (Q (AV.rsl true 143 0 (lenN [AV.agg (yv8 a)]+lenN [AV.agg (yv10 b)]+lenN [AV.agg (yv12 c)]+lenN [AV.agg (yv14 d)]+lenN [AV.agg (yv17 e)]+lenN [AV.agg (yv22 f)]) 5) [(145,some (Blk.cells (yv22 f))),(143,some (Blk.cells [I 4325387,I 1,I 0,AV.nilsl,AV.fsl true (yv1 a),I 4325387,I 1,I 0,AV.nilsl,AV.fsl true (yv2 b),I 4325387,I 1,I 0,AV.nilsl,AV.fsl true (yv3 c),I 4325387,I 1,I 0,AV.nilsl,AV.fsl true (yv4 d),I 4325387,I 1,I 0,AV.nilsl,AV.fsl true (yv5 e),I 4325387,I 1,I 0,AV.nilsl,AV.fsl true (yv6 f)])),(yv30 f),(121,some (Blk.cells (yv17 e))),(119,none),(yv28 e),(97,some (Blk.cells (yv14 d))),(95,none),(yv26 d),(73,some (Blk.cells (yv12 c))),(71,none),(yv24 c),(49,some (Blk.cells (yv10 b))),(47,none),(yv23 b),(25,some (Blk.cells (yv8 a))),(23,none),(yv19 a),(0,some (Blk.cells (obF o M N (AV.fsl false [AV.agg [I a.1,AV.str a.2],AV.agg [I b.1,AV.str b.2],AV.agg [I c.1,AV.str c.2],AV.agg [I d.1,AV.str d.2],AV.agg [I e.1,AV.str e.2],AV.agg [I f.1,AV.str f.2]]) C)))]):=by kernel_rfl
abbrev yv11 (g:Lk):=[AV.agg [I 4325451,I 5,I g.1,AV.nilsl,AV.nilsl],AV.agg [I 4325452,I 7,I 0,AV.fsl false (toBytes g.2),AV.nilsl]]
abbrev yv27 (g:Lk):=[I 4325387,I 1,I 0,AV.nilsl,AV.fsl true (yv11 g)]
theorem gL7_fn (o:Ob) (M N C:AV) (a b c d e f g:Lk) (Q:AV→Heap→Prop):fnK Tryz.prog opts0 40 (aidJ [] [] noSem inlG []) 178 [.agg (obF o M N (.fsl false [lkA a,lkA b,lkA c,lkA d,lkA e,lkA f,lkA g]) C)] [] 0 (fun v H _=>Q v H)=
  (Q (AV.rsl true 167 0 (lenN [AV.agg (yv8 a)]+lenN [AV.agg (yv10 b)]+lenN [AV.agg (yv12 c)]+lenN [AV.agg (yv14 d)]+lenN [AV.agg (yv17 e)]+lenN [AV.agg (yv22 f)]+lenN [AV.agg (yv27 g)]) 5) [(169,some (Blk.cells (yv27 g))),(167,some (Blk.cells [I 4325387,I 1,I 0,AV.nilsl,AV.fsl true (yv1 a),I 4325387,I 1,I 0,AV.nilsl,AV.fsl true (yv2 b),I 4325387,I 1,I 0,AV.nilsl,AV.fsl true (yv3 c),I 4325387,I 1,I 0,AV.nilsl,AV.fsl true (yv4 d),I 4325387,I 1,I 0,AV.nilsl,AV.fsl true (yv5 e),I 4325387,I 1,I 0,AV.nilsl,AV.fsl true (yv6 f),I 4325387,I 1,I 0,AV.nilsl,AV.fsl true (yv11 g)])),(154,some (Blk.cells [I g.1,AV.str g.2])),(145,some (Blk.cells (yv22 f))),(143,none),(yv30 f),(121,some (Blk.cells (yv17 e))),(119,none),(yv28 e),(97,some (Blk.cells (yv14 d))),(95,none),(yv26 d),(73,some (Blk.cells (yv12 c))),(71,none),(yv24 c),(49,some (Blk.cells (yv10 b))),(47,none),(yv23 b),(25,some (Blk.cells (yv8 a))),(23,none),(yv19 a),(0,some (Blk.cells (obF o M N (AV.fsl false [AV.agg [I a.1,AV.str a.2],AV.agg [I b.1,AV.str b.2],AV.agg [I c.1,AV.str c.2],AV.agg [I d.1,AV.str d.2],AV.agg [I e.1,AV.str e.2],AV.agg [I f.1,AV.str f.2],AV.agg [I g.1,AV.str g.2]]) C)))]):=by kernel_rfl
abbrev yv21 (h:Lk):=[AV.agg [I 4325451,I 5,I h.1,AV.nilsl,AV.nilsl],AV.agg [I 4325452,I 7,I 0,AV.fsl false (toBytes h.2),AV.nilsl]]
theorem gL8_fn (o:Ob) (M N C:AV) (a b c d e f g h:Lk) (Q:AV→Heap→Prop):fnK Tryz.prog opts0 40 (aidJ [] [] noSem inlG []) 178 [.agg (obF o M N (.fsl false [lkA a,lkA b,lkA c,lkA d,lkA e,lkA f,lkA g,lkA h]) C)] [] 0 (fun v H _=>Q v H)=
  (Q (AV.rsl true 191 0 (lenN [AV.agg (yv8 a)]+lenN [AV.agg (yv10 b)]+lenN [AV.agg (yv12 c)]+lenN [AV.agg (yv14 d)]+lenN [AV.agg (yv17 e)]+lenN [AV.agg (yv22 f)]+lenN [AV.agg (yv27 g)]+lenN [AV.agg [I 4325387,I 1,I 0,AV.nilsl,AV.fsl true (yv21 h)]]) 5) [(193,some (Blk.cells [I 4325387,I 1,I 0,AV.nilsl,AV.fsl true (yv21 h)])),(191,some (Blk.cells [I 4325387,I 1,I 0,AV.nilsl,AV.fsl true (yv1 a),I 4325387,I 1,I 0,AV.nilsl,AV.fsl true (yv2 b),I 4325387,I 1,I 0,AV.nilsl,AV.fsl true (yv3 c),I 4325387,I 1,I 0,AV.nilsl,AV.fsl true (yv4 d),I 4325387,I 1,I 0,AV.nilsl,AV.fsl true (yv5 e),I 4325387,I 1,I 0,AV.nilsl,AV.fsl true (yv6 f),I 4325387,I 1,I 0,AV.nilsl,AV.fsl true (yv11 g),I 4325387,I 1,I 0,AV.nilsl,AV.fsl true (yv21 h)])),(178,some (Blk.cells [I h.1,AV.str h.2])),(169,some (Blk.cells (yv27 g))),(167,none),(154,some (Blk.cells [I g.1,AV.str g.2])),(145,some (Blk.cells (yv22 f))),(143,none),(yv30 f),(121,some (Blk.cells (yv17 e))),(119,none),(yv28 e),(97,some (Blk.cells (yv14 d))),(95,none),(yv26 d),(73,some (Blk.cells (yv12 c))),(71,none),(yv24 c),(49,some (Blk.cells (yv10 b))),(47,none),(yv23 b),(25,some (Blk.cells (yv8 a))),(23,none),(yv19 a),(0,some (Blk.cells (obF o M N (AV.fsl false [AV.agg [I a.1,AV.str a.2],AV.agg [I b.1,AV.str b.2],AV.agg [I c.1,AV.str c.2],AV.agg [I d.1,AV.str d.2],AV.agg [I e.1,AV.str e.2],AV.agg [I f.1,AV.str f.2],AV.agg [I g.1,AV.str g.2],AV.agg [I h.1,AV.str h.2]]) C)))]):=by kernel_rfl
def rawL (x:Lk):AV:= .agg [I 4325387,I 1,I 0,.nilsl,.fsl true [.agg [I 4325451,I 5,I x.ty,.nilsl,.nilsl],.agg [I 4325452,I 7,I 0,.fsl false (toBytes x.id),.nilsl]]]
theorem closed_rawL:∀l:List (Lk),closedAll (l.map rawL)=true
 |[]=>rfl
 |x::r=>by
  rw[List.map_cons,closedAll,closed_rawL r]
  simp[rawL,closedA,closedAll]
theorem good_rawL:∀l:List (Lk),∀e∈l.map rawL,goodEl 5 e:=fun l e he=>by
 obtain ⟨x,_,rfl⟩:=List.mem_map.1 he
 exact ⟨rfl,rfl⟩
theorem wk_rawL (l:List (Lk)):Wk (.fsl false (l.map rawL)) (.fsl false (itAs (l.map lkI))):=by
 rw[itAs_map,List.map_map]
 refine Wk.rows (WkE.map fun x _=> ?_)
 simp only[rawL,Function.comp,lkI,whl,prt,vlV,itA,itAs,AV.cells,toBytes]
 (repeat (first|exact Wk.refl _|exact WkL.refl _|exact Wk.nil|exact Wk.row|exact WkE.refl _|exact WkL.nil|exact WkE.nil|apply Wk.agg|apply Wk.tuple|apply WkL.cons|apply Wk.rows|apply WkE.consA))
theorem gL1_sem (o:Ob) {M N C:AV} (hM:closedA M=true) (hL:closedA N=true) (hC:closedA C=true) (a:Lk):SC 178 [.agg (obF o M N (.fsl false [lkA a]) C)] (.fsl false (itAs ([a].map lkI))):=by
 refine fnK_semX (A:=aidJ [] [] noSem inlG []) base0 aidJ_ok (fnLs_of (LsOk.no rfl)) (closed_one (closed_obF o hM hL (closed_fslA (closed_lks [a])) hC)) ?_
 rw[gL1_fn]
 exact ⟨.fsl false ([a].map rawL),Frz.out (Frz.row (c:=flat ([a].map rawL)) (es:=[a].map rawL) (by kernel_rfl) (by kernel_rfl) rfl (by kernel_rfl) (good_rawL _) (closed_rawL _)),closed_fslA (closed_rawL _),wk_rawL [a]⟩
theorem gL2_sem (o:Ob) {M N C:AV} (hM:closedA M=true) (hL:closedA N=true) (hC:closedA C=true) (a b:Lk):SC 178 [.agg (obF o M N (.fsl false [lkA a,lkA b]) C)] (.fsl false (itAs ([a,b].map lkI))):=by
 refine fnK_semX (A:=aidJ [] [] noSem inlG []) base0 aidJ_ok (fnLs_of (LsOk.no rfl)) (closed_one (closed_obF o hM hL (closed_fslA (closed_lks [a,b])) hC)) ?_
 rw[gL2_fn]
 exact ⟨.fsl false ([a,b].map rawL),Frz.out (Frz.row (c:=flat ([a,b].map rawL)) (es:=[a,b].map rawL) (by kernel_rfl) (by kernel_rfl) rfl (by kernel_rfl) (good_rawL _) (closed_rawL _)),closed_fslA (closed_rawL _),wk_rawL [a,b]⟩
theorem gL3_sem (o:Ob) {M N C:AV} (hM:closedA M=true) (hL:closedA N=true) (hC:closedA C=true) (a b c:Lk):SC 178 [.agg (obF o M N (.fsl false [lkA a,lkA b,lkA c]) C)] (.fsl false (itAs ([a,b,c].map lkI))):=by
 refine fnK_semX (A:=aidJ [] [] noSem inlG []) base0 aidJ_ok (fnLs_of (LsOk.no rfl)) (closed_one (closed_obF o hM hL (closed_fslA (closed_lks [a,b,c])) hC)) ?_
 rw[gL3_fn]
 exact ⟨.fsl false ([a,b,c].map rawL),Frz.out (Frz.row (c:=flat ([a,b,c].map rawL)) (es:=[a,b,c].map rawL) (by kernel_rfl) (by kernel_rfl) rfl (by kernel_rfl) (good_rawL _) (closed_rawL _)),closed_fslA (closed_rawL _),wk_rawL [a,b,c]⟩
theorem gL4_sem (o:Ob) {M N C:AV} (hM:closedA M=true) (hL:closedA N=true) (hC:closedA C=true) (a b c d:Lk):SC 178 [.agg (obF o M N (.fsl false [lkA a,lkA b,lkA c,lkA d]) C)] (.fsl false (itAs ([a,b,c,d].map lkI))):=by
 refine fnK_semX (A:=aidJ [] [] noSem inlG []) base0 aidJ_ok (fnLs_of (LsOk.no rfl)) (closed_one (closed_obF o hM hL (closed_fslA (closed_lks [a,b,c,d])) hC)) ?_
 rw[gL4_fn]
 exact ⟨.fsl false ([a,b,c,d].map rawL),Frz.out (Frz.row (c:=flat ([a,b,c,d].map rawL)) (es:=[a,b,c,d].map rawL) (by kernel_rfl) (by kernel_rfl) rfl (by kernel_rfl) (good_rawL _) (closed_rawL _)),closed_fslA (closed_rawL _),wk_rawL [a,b,c,d]⟩
theorem gL5_sem (o:Ob) {M N C:AV} (hM:closedA M=true) (hL:closedA N=true) (hC:closedA C=true) (a b c d e:Lk):SC 178 [.agg (obF o M N (.fsl false [lkA a,lkA b,lkA c,lkA d,lkA e]) C)] (.fsl false (itAs ([a,b,c,d,e].map lkI))):=by
 refine fnK_semX (A:=aidJ [] [] noSem inlG []) base0 aidJ_ok (fnLs_of (LsOk.no rfl)) (closed_one (closed_obF o hM hL (closed_fslA (closed_lks [a,b,c,d,e])) hC)) ?_
 rw[gL5_fn]
 exact ⟨.fsl false ([a,b,c,d,e].map rawL),Frz.out (Frz.row (c:=flat ([a,b,c,d,e].map rawL)) (es:=[a,b,c,d,e].map rawL) (by kernel_rfl) (by kernel_rfl) rfl (by kernel_rfl) (good_rawL _) (closed_rawL _)),closed_fslA (closed_rawL _),wk_rawL [a,b,c,d,e]⟩
theorem gL6_sem (o:Ob) {M N C:AV} (hM:closedA M=true) (hL:closedA N=true) (hC:closedA C=true) (a b c d e f:Lk):SC 178 [.agg (obF o M N (.fsl false [lkA a,lkA b,lkA c,lkA d,lkA e,lkA f]) C)] (.fsl false (itAs ([a,b,c,d,e,f].map lkI))):=by
 refine fnK_semX (A:=aidJ [] [] noSem inlG []) base0 aidJ_ok (fnLs_of (LsOk.no rfl)) (closed_one (closed_obF o hM hL (closed_fslA (closed_lks [a,b,c,d,e,f])) hC)) ?_
 rw[gL6_fn]
 exact ⟨.fsl false ([a,b,c,d,e,f].map rawL),Frz.out (Frz.row (c:=flat ([a,b,c,d,e,f].map rawL)) (es:=[a,b,c,d,e,f].map rawL) (by kernel_rfl) (by kernel_rfl) rfl (by kernel_rfl) (good_rawL _) (closed_rawL _)),closed_fslA (closed_rawL _),wk_rawL [a,b,c,d,e,f]⟩
theorem gL7_sem (o:Ob) {M N C:AV} (hM:closedA M=true) (hL:closedA N=true) (hC:closedA C=true) (a b c d e f g:Lk):SC 178 [.agg (obF o M N (.fsl false [lkA a,lkA b,lkA c,lkA d,lkA e,lkA f,lkA g]) C)] (.fsl false (itAs ([a,b,c,d,e,f,g].map lkI))):=by
 refine fnK_semX (A:=aidJ [] [] noSem inlG []) base0 aidJ_ok (fnLs_of (LsOk.no rfl)) (closed_one (closed_obF o hM hL (closed_fslA (closed_lks [a,b,c,d,e,f,g])) hC)) ?_
 rw[gL7_fn]
 exact ⟨.fsl false ([a,b,c,d,e,f,g].map rawL),Frz.out (Frz.row (c:=flat ([a,b,c,d,e,f,g].map rawL)) (es:=[a,b,c,d,e,f,g].map rawL) (by kernel_rfl) (by kernel_rfl) rfl (by kernel_rfl) (good_rawL _) (closed_rawL _)),closed_fslA (closed_rawL _),wk_rawL [a,b,c,d,e,f,g]⟩
theorem gL8_sem (o:Ob) {M N C:AV} (hM:closedA M=true) (hL:closedA N=true) (hC:closedA C=true) (a b c d e f g h:Lk):SC 178 [.agg (obF o M N (.fsl false [lkA a,lkA b,lkA c,lkA d,lkA e,lkA f,lkA g,lkA h]) C)] (.fsl false (itAs ([a,b,c,d,e,f,g,h].map lkI))):=by
 refine fnK_semX (A:=aidJ [] [] noSem inlG []) base0 aidJ_ok (fnLs_of (LsOk.no rfl)) (closed_one (closed_obF o hM hL (closed_fslA (closed_lks [a,b,c,d,e,f,g,h])) hC)) ?_
 rw[gL8_fn]
 exact ⟨.fsl false ([a,b,c,d,e,f,g,h].map rawL),Frz.out (Frz.row (c:=flat ([a,b,c,d,e,f,g,h].map rawL)) (es:=[a,b,c,d,e,f,g,h].map rawL) (by kernel_rfl) (by kernel_rfl) rfl (by kernel_rfl) (good_rawL _) (closed_rawL _)),closed_fslA (closed_rawL _),wk_rawL [a,b,c,d,e,f,g,h]⟩
theorem gL0_sem (o:Ob) {M N C:AV} (hM:closedA M=true) (hL:closedA N=true) (hC:closedA C=true):SC 178 [.agg (obF o M N (.fsl false []) C)] (.fsl false []):=by
 refine fnK_semX (A:=aidJ [] [] noSem inlG []) base0 aidJ_ok (fnLs_of (LsOk.no rfl)) (closed_one (closed_obF o hM hL rfl hC)) ?_
 rw[gL0_fn]
 exact ⟨.nilsl,⟨1,rfl⟩,rfl,.nil⟩
theorem gL_sem (o:Ob) {M N C:AV} (hM:closedA M=true) (hL:closedA N=true) (hC:closedA C=true):∀l:List (Lk),l.length≤8→SC 178 [.agg (obF o M N (.fsl false (l.map lkA)) C)] (.fsl false (itAs (l.map lkI)))
 |[],_=>gL0_sem o hM hL hC
 |[a],_=>gL1_sem o hM hL hC a
 |[a,b],_=>gL2_sem o hM hL hC a b
 |[a,b,c],_=>gL3_sem o hM hL hC a b c
 |[a,b,c,d],_=>gL4_sem o hM hL hC a b c d
 |[a,b,c,d,e],_=>gL5_sem o hM hL hC a b c d e
 |[a,b,c,d,e,f],_=>gL6_sem o hM hL hC a b c d e f
 |[a,b,c,d,e,f,g],_=>gL7_sem o hM hL hC a b c d e f g
 |[a,b,c,d,e,f,g,h],_=>gL8_sem o hM hL hC a b c d e f g h
 |_::_::_::_::_::_::_::_::_::_,h=>absurd h (by simp)
end
end Go.Proofs.YtjhggnebkfpgcaaGreatDoor
namespace Go.Proofs.YtjhggnebkfpgcaaGreatDoor
open Go Go.RowKit
open Go.Proofs.Abs
def gfn:Kd→Nat
 | .uid=>127
 | .nam=>166
 | .typ=>130
 | .sta=>134
 | .dat _=>172
 | .why=>138
 | .lnk=>178
 | .lim=>184
 | .cus _=>150
 |_=>161
def gcp:Kd→List AV
 | .dat k=>[.fptr [nI k] 0]
 | .cus s=>[.fptr [.str s] 0]
 | .alg=>[.fptr [atF .alg] 0,.fptr [I 1] 0,.fptr [I 5] 0]
 | .len=>[.fptr [atF .len] 0,.fptr [I 1] 0,.fptr [I 2] 0]
 | .mask=>[.fptr [atF .mask] 0,.fptr [I 0] 0,.fptr [I 2] 0]
 |_=>[]
theorem getF_eq (k:Kd):getF k=fnC (gfn k) (gcp k):=by cases k<;>rfl
mutual
def txI:It→Prop
 | .mk _ _ _ d ks=>d∈texts∧txIs ks
def txIs:List It→Prop
 |[]=>True
 |k::r=>txI k∧txIs r
end
theorem txI_d {x:It} (h:txI x):itD x∈texts:=by cases x;exact h.1
end Go.Proofs.YtjhggnebkfpgcaaGreatDoor
