/- What WorldKnown comes to: its functions, the variables that they name. -/
import Derived.Test.YthikljbjnlibiaaGreatDoorRows
import Derived.ProofKit
import Derived.KernelRfl
namespace Go.Proofs.YthikljbjnlibiaaGreatDoor
open Go
def clo8c0 : List Nat := [8, 46, 11, 102, 182, 12, 55, 111, 112, 190, 278, 114, 191, 125, 198, 130, 192, 202, 279, 217, 284, 215, 206, 196, 282, 280, 93, 193, 281, 113, 194, 210, 126, 195, 197, 56, 115, 116, 117, 118]
def clo8c1 : List Nat := [119, 199, 283, 200, 201, 203, 204, 205, 57, 15, 60, 63, 61, 127, 86, 165, 211, 89, 168, 62, 128, 212, 64, 129, 131, 213, 132, 134, 133, 136, 135, 137, 138, 73, 152, 153, 180, 255, 154, 155]
def clo8c2 : List Nat := [233, 296, 156, 234, 297, 157, 158, 235, 298, 159, 236, 299, 160, 214, 216, 47, 103, 48, 104, 183, 256, 257, 185, 260, 261, 262, 314, 344, 362, 144, 264, 263, 265, 184, 258, 307, 342, 359, 310, 360]
def clo8c3 : List Nat := [361, 390, 448, 308, 343, 312, 259, 309, 311, 313, 105, 186, 109, 58, 120, 20, 266, 315, 345, 363, 391, 392, 393, 394, 316, 347, 348, 346, 364, 349, 350, 351, 267, 317, 352, 269, 323, 324, 325, 326]
def clo8c4 : List Nat := [268, 30, 28, 83, 84, 77, 92, 170, 169, 171, 242, 19, 68, 145, 146, 147, 69, 149, 229, 230, 148, 221, 222, 289, 223, 290, 291, 224, 292, 293, 332, 225, 226, 227, 228, 70, 71, 150, 231, 294]
def clo8c5 : List Nat := [333, 334, 295, 335, 356, 336, 337, 358, 389, 447, 237, 238, 300, 301, 239, 240, 302, 303, 339, 340, 357, 338, 151, 232, 96, 173, 251, 85, 164, 87, 88, 166, 167, 241, 75, 161, 162, 34, 94, 172]
def clo8c6 : List Nat := [243, 244, 304, 245, 246, 305, 306, 341, 247, 248, 249, 250, 95, 318, 320, 319, 353, 365, 396, 397, 449, 354, 450, 407, 463, 413, 466, 467, 464, 478, 512, 545, 546, 511, 549, 550, 551, 552, 596, 544]
def clo8c7 : List Nat := [547, 548, 539, 553, 510, 526, 567, 534, 531, 568, 569, 570, 527, 528, 529, 530, 532, 571, 572, 573, 574, 575, 576, 577, 603, 533, 535, 536, 537, 538, 578, 580, 581, 579, 540, 541, 582, 542, 583, 584]
def clo8c8 : List Nat := [585, 586, 587, 588, 589, 604, 543, 590, 591, 592, 593, 594, 595, 480, 513, 482, 509, 525, 479, 483, 408, 465, 451, 468, 503, 499, 452, 26, 78, 79, 80, 163, 411, 24, 74, 453, 416, 395, 31, 366]
def clo8c9 : List Nat := [398, 399, 454, 455, 409, 367, 400, 401, 456, 500, 457, 368, 402, 404, 405, 460, 502, 461, 406, 462, 410, 403, 458, 459, 501, 38, 369, 412, 414, 469, 470, 471, 504, 505, 506, 415, 472, 507, 427, 484]
def clo8c10 : List Nat := [524, 508, 473, 370, 417, 371, 418, 474, 372, 419, 475, 428, 373, 420, 476, 374, 421, 424, 477, 422, 481, 375, 423, 376, 425, 426, 377, 429, 430, 485, 378, 431, 486, 433, 487, 432, 379, 434, 435, 488]
def clo8c11 : List Nat := [380, 436, 489, 381, 437, 382, 438, 383, 439, 490, 440, 491, 514, 554, 384, 441, 385, 442, 492, 493, 494, 515, 555, 556, 557, 516, 443, 495, 517, 558, 597, 598, 605, 518, 559, 599, 606, 607, 520, 519]
def clo8c12 : List Nat := [560, 561, 562, 600, 563, 601, 602, 386, 444, 496, 521, 564, 565, 566, 522, 387, 445, 497, 523, 388, 446, 498, 321, 355, 322, 270, 208, 207, 285, 123, 14, 59, 121, 122, 209, 286, 329, 330, 331, 287]
def clo8c13 : List Nat := [288, 124, 106, 107, 49, 108, 23, 187, 188, 189, 271, 39, 272, 273, 274, 327, 275, 328, 72, 276, 277, 10, 50, 51, 52, 53]
def clo8l : List Nat := clo8c0 ++ (clo8c1 ++ (clo8c2 ++ (clo8c3 ++ (clo8c4 ++ (clo8c5 ++ (clo8c6 ++ (clo8c7 ++ (clo8c8 ++ (clo8c9 ++ (clo8c10 ++ (clo8c11 ++ (clo8c12 ++ (clo8c13)))))))))))))
set_option maxRecDepth 100000 in
theorem clo8 : Tryz.prog.closure 8 = clo8l := by kernel_rfl
set_option maxRecDepth 100000 in
theorem clo8g0 : (clo8c0.flatMap fun g => ((Tryz.prog.funcs[g]?).bind (·.body)).elim [] Code.globalsNamed) = [] := by kernel_rfl
set_option maxRecDepth 100000 in
theorem clo8e0 : (clo8c0.filterMap fun g => (Tryz.prog.funcs[g]?).bind fun fn => if fn.body.isNone then entryReads.lookup fn.name else none) = [] := by kernel_rfl
set_option maxRecDepth 100000 in
theorem clo8g1 : (clo8c1.flatMap fun g => ((Tryz.prog.funcs[g]?).bind (·.body)).elim [] Code.globalsNamed) = [1, 2] := by kernel_rfl
set_option maxRecDepth 100000 in
theorem clo8e1 : (clo8c1.filterMap fun g => (Tryz.prog.funcs[g]?).bind fun fn => if fn.body.isNone then entryReads.lookup fn.name else none) = [] := by kernel_rfl
set_option maxRecDepth 100000 in
theorem clo8g2 : (clo8c2.flatMap fun g => ((Tryz.prog.funcs[g]?).bind (·.body)).elim [] Code.globalsNamed) = [] := by kernel_rfl
set_option maxRecDepth 100000 in
theorem clo8e2 : (clo8c2.filterMap fun g => (Tryz.prog.funcs[g]?).bind fun fn => if fn.body.isNone then entryReads.lookup fn.name else none) = [] := by kernel_rfl
set_option maxRecDepth 100000 in
theorem clo8g3 : (clo8c3.flatMap fun g => ((Tryz.prog.funcs[g]?).bind (·.body)).elim [] Code.globalsNamed) = [1, 2] := by kernel_rfl
set_option maxRecDepth 100000 in
theorem clo8e3 : (clo8c3.filterMap fun g => (Tryz.prog.funcs[g]?).bind fun fn => if fn.body.isNone then entryReads.lookup fn.name else none) = [] := by kernel_rfl
set_option maxRecDepth 100000 in
theorem clo8g4 : (clo8c4.flatMap fun g => ((Tryz.prog.funcs[g]?).bind (·.body)).elim [] Code.globalsNamed) = [] := by kernel_rfl
set_option maxRecDepth 100000 in
theorem clo8e4 : (clo8c4.filterMap fun g => (Tryz.prog.funcs[g]?).bind fun fn => if fn.body.isNone then entryReads.lookup fn.name else none) = [] := by kernel_rfl
set_option maxRecDepth 100000 in
theorem clo8g5 : (clo8c5.flatMap fun g => ((Tryz.prog.funcs[g]?).bind (·.body)).elim [] Code.globalsNamed) = [6, 7, 4, 8, 9] := by kernel_rfl
set_option maxRecDepth 100000 in
theorem clo8e5 : (clo8c5.filterMap fun g => (Tryz.prog.funcs[g]?).bind fun fn => if fn.body.isNone then entryReads.lookup fn.name else none) = [] := by kernel_rfl
set_option maxRecDepth 100000 in
theorem clo8g6 : (clo8c6.flatMap fun g => ((Tryz.prog.funcs[g]?).bind (·.body)).elim [] Code.globalsNamed) = [] := by kernel_rfl
set_option maxRecDepth 100000 in
theorem clo8e6 : (clo8c6.filterMap fun g => (Tryz.prog.funcs[g]?).bind fun fn => if fn.body.isNone then entryReads.lookup fn.name else none) = [] := by kernel_rfl
set_option maxRecDepth 100000 in
theorem clo8g7 : (clo8c7.flatMap fun g => ((Tryz.prog.funcs[g]?).bind (·.body)).elim [] Code.globalsNamed) = [] := by kernel_rfl
set_option maxRecDepth 100000 in
theorem clo8e7 : (clo8c7.filterMap fun g => (Tryz.prog.funcs[g]?).bind fun fn => if fn.body.isNone then entryReads.lookup fn.name else none) = [] := by kernel_rfl
set_option maxRecDepth 100000 in
theorem clo8g8 : (clo8c8.flatMap fun g => ((Tryz.prog.funcs[g]?).bind (·.body)).elim [] Code.globalsNamed) = [] := by kernel_rfl
set_option maxRecDepth 100000 in
theorem clo8e8 : (clo8c8.filterMap fun g => (Tryz.prog.funcs[g]?).bind fun fn => if fn.body.isNone then entryReads.lookup fn.name else none) = [] := by kernel_rfl
set_option maxRecDepth 100000 in
theorem clo8g9 : (clo8c9.flatMap fun g => ((Tryz.prog.funcs[g]?).bind (·.body)).elim [] Code.globalsNamed) = [] := by kernel_rfl
set_option maxRecDepth 100000 in
theorem clo8e9 : (clo8c9.filterMap fun g => (Tryz.prog.funcs[g]?).bind fun fn => if fn.body.isNone then entryReads.lookup fn.name else none) = [] := by kernel_rfl
set_option maxRecDepth 100000 in
theorem clo8g10 : (clo8c10.flatMap fun g => ((Tryz.prog.funcs[g]?).bind (·.body)).elim [] Code.globalsNamed) = [] := by kernel_rfl
set_option maxRecDepth 100000 in
theorem clo8e10 : (clo8c10.filterMap fun g => (Tryz.prog.funcs[g]?).bind fun fn => if fn.body.isNone then entryReads.lookup fn.name else none) = [] := by kernel_rfl
set_option maxRecDepth 100000 in
theorem clo8g11 : (clo8c11.flatMap fun g => ((Tryz.prog.funcs[g]?).bind (·.body)).elim [] Code.globalsNamed) = [] := by kernel_rfl
set_option maxRecDepth 100000 in
theorem clo8e11 : (clo8c11.filterMap fun g => (Tryz.prog.funcs[g]?).bind fun fn => if fn.body.isNone then entryReads.lookup fn.name else none) = [] := by kernel_rfl
set_option maxRecDepth 100000 in
theorem clo8g12 : (clo8c12.flatMap fun g => ((Tryz.prog.funcs[g]?).bind (·.body)).elim [] Code.globalsNamed) = [] := by kernel_rfl
set_option maxRecDepth 100000 in
theorem clo8e12 : (clo8c12.filterMap fun g => (Tryz.prog.funcs[g]?).bind fun fn => if fn.body.isNone then entryReads.lookup fn.name else none) = [] := by kernel_rfl
set_option maxRecDepth 100000 in
theorem clo8g13 : (clo8c13.flatMap fun g => ((Tryz.prog.funcs[g]?).bind (·.body)).elim [] Code.globalsNamed) = [3, 5] := by kernel_rfl
set_option maxRecDepth 100000 in
theorem clo8e13 : (clo8c13.filterMap fun g => (Tryz.prog.funcs[g]?).bind fun fn => if fn.body.isNone then entryReads.lookup fn.name else none) = [] := by kernel_rfl
set_option maxRecDepth 100000 in
theorem clo8named : Tryz.prog.varsNamed 8 = ["unicode/utf8.first", "unicode/utf8.acceptRanges", "strconv.ErrSyntax", "strconv.ErrRange", "internal/strconv.uint64pow10", "math/bits.deBruijn32tab", "math/bits.deBruijn64tab", "locksmith/locksmithhand.kinds", "locksmith/locksmithhand.names"] := by
  unfold Program.varsNamed
  rw [clo8]
  unfold clo8l
  simp only [List.flatMap_append, List.filterMap_append, clo8g0, clo8e0, clo8g1, clo8e1, clo8g2, clo8e2, clo8g3, clo8e3, clo8g4, clo8e4, clo8g5, clo8e5, clo8g6, clo8e6, clo8g7, clo8e7, clo8g8, clo8e8, clo8g9, clo8e9, clo8g10, clo8e10, clo8g11, clo8e11, clo8g12, clo8e12, clo8g13, clo8e13]
  kernel_rfl
end Go.Proofs.YthikljbjnlibiaaGreatDoor
