/- What a copy of an item is. -/
import Derived.Test.YtjhggnebkfpgcaaGreatDoorClone
import Derived.KernelRfl
namespace Go.Proofs.YtjhggnebkfpgcaaGreatDoor
open Go Go.RowKit
open Go.Proofs.Abs

def cpZ : List AV := [I 0, I 0, I 0, .nilsl, .nilsl]
noncomputable def cpV0 (t y n : Int) (D K : AV) (k : Nat) : View := ⟨[(11, K), (12, I (.ofNat k)), (13, I 0), (3, .nilsl)], [(1, .ptr 0 0), (2, .ptr 1 0)], [(0, .cells (smC t y n D K), .whole), (1, .cells cpZ, .whole)], 3, 26⟩
noncomputable def cpV (t y n : Int) (D K : AV) (k i : Nat) (es : List AV) : View := ⟨[(11, K), (12, I (.ofNat k)), (13, I (.ofNat i))], [(1, .ptr 0 0), (2, .ptr 1 0), (3, .rsl true 2 0 i 5)], [(0, .cells (smC t y n D K), .whole), (1, .cells cpZ, .whole), (2, .cells es, .whole)], 3, 26⟩
noncomputable def cpA (c : List AV) (c' : AV) : Aid := aidS (manyH [(5, 0, .res (.fptr c 0))]) (fun _ => none) (manyS [(160, c')])
theorem cp_round0 (t y n a b c : Int) (D K E L E' L' : AV) (k : Nat) (es : List AV) (N : Prop) (Q : AExit → St → Prop) : wpK Tryz.prog opts0 40 (cpA [I a, I b, I c, E, L] (.agg [I a, I b, I c, E', L'])) (lpCode Tryz.prog 160 5) (cpV0 t y n D K k).st (roundP 0 [(0, 0), (1, 1), (2, 12)] (cpV t y n D K k 1 es) N [(0, 0), (1, 1)] (cpV0 t y n D K k) Q) =
    (mtB (ltInt 0 (Int.ofNat k)) (indexAddrA Tryz.prog 35 K (AV.int IntKind.i64 0) = some (AV.fptr [AV.int IntKind.i64 a, AV.int IntKind.i64 b, AV.int IntKind.i64 c, E, L] 0) ∧ oblB (fitsT Tryz.prog 37 (AV.agg [AV.int IntKind.i64 a, AV.int IntKind.i64 b, AV.int IntKind.i64 c, E, L]) 5) (SemCall Tryz.prog opts0.glob 160 [AV.agg [AV.int IntKind.i64 a, AV.int IntKind.i64 b, AV.int IntKind.i64 c, E, L]] (AV.agg [AV.int IntKind.i64 a, AV.int IntKind.i64 b, AV.int IntKind.i64 c, E', L']) ∧ (((K = K ∧ closedA K = true) ∧ (AV.int IntKind.i64 (Int.ofNat k) = AV.int IntKind.i64 (Int.ofNat k) ∧ closedA (AV.int IntKind.i64 (Int.ofNat k)) = true) ∧ (AV.int IntKind.i64 1 = AV.int IntKind.i64 1 ∧ true = true) ∧ True) ∧ ((some 0 = some 0 ∧ 0 = 0) ∧ (some 1 = some 1 ∧ 0 = 0) ∧ (true = true ∧ some 12 = some 12 ∧ 0 = 0 ∧ 1 = lenN [AV.agg [AV.int IntKind.i64 a, AV.int IntKind.i64 b, AV.int IntKind.i64 c, E', L']] ∧ 5 = 5) ∧ True) ∧ ([AV.int IntKind.i64 t, AV.int IntKind.i64 y, AV.int IntKind.i64 n, D, K] = [AV.int IntKind.i64 t, AV.int IntKind.i64 y, AV.int IntKind.i64 n, D, K] ∧ closedAll [AV.int IntKind.i64 t, AV.int IntKind.i64 y, AV.int IntKind.i64 n, D, K] = true) ∧ ([AV.int IntKind.i64 0, AV.int IntKind.i64 0, AV.int IntKind.i64 0, AV.nilsl, AV.nilsl] = [AV.int IntKind.i64 0, AV.int IntKind.i64 0, AV.int IntKind.i64 0, AV.nilsl, AV.nilsl] ∧ true = true) ∧ (flat [AV.agg [AV.int IntKind.i64 a, AV.int IntKind.i64 b, AV.int IntKind.i64 c, E', L']] = es ∧ closedAll es = true) ∧ True) ∧ N)) ((((K = K ∧ closedA K = true) ∧ (AV.int IntKind.i64 (Int.ofNat k) = AV.int IntKind.i64 (Int.ofNat k) ∧ closedA (AV.int IntKind.i64 (Int.ofNat k)) = true) ∧ (AV.int IntKind.i64 0 = AV.int IntKind.i64 0 ∧ true = true) ∧ (AV.nilsl = AV.nilsl ∧ true = true) ∧ True) ∧ ((some 0 = some 0 ∧ 0 = 0) ∧ (some 1 = some 1 ∧ 0 = 0) ∧ True) ∧ ([AV.int IntKind.i64 t, AV.int IntKind.i64 y, AV.int IntKind.i64 n, D, K] = [AV.int IntKind.i64 t, AV.int IntKind.i64 y, AV.int IntKind.i64 n, D, K] ∧ closedAll [AV.int IntKind.i64 t, AV.int IntKind.i64 y, AV.int IntKind.i64 n, D, K] = true) ∧ ([AV.int IntKind.i64 0, AV.int IntKind.i64 0, AV.int IntKind.i64 0, AV.nilsl, AV.nilsl] = [AV.int IntKind.i64 0, AV.int IntKind.i64 0, AV.int IntKind.i64 0, AV.nilsl, AV.nilsl] ∧ true = true) ∧ True) ∧ Q (AExit.exit 0) (cpV0 t y n D K k).st)) := by kernel_rfl
theorem cp_round1 (t y n a b c : Int) (D K E L E' L' : AV) (k i j : Nat) (es es' : List AV) (N : Prop) (Q : AExit → St → Prop) : wpK Tryz.prog opts0 40 (cpA [I a, I b, I c, E, L] (.agg [I a, I b, I c, E', L'])) (lpCode Tryz.prog 160 5) (cpV t y n D K k i es).st (roundP 0 [(0, 0), (1, 1), (2, 12)] (cpV t y n D K k j es') N [(0, 0), (1, 1), (2, 2)] (cpV t y n D K k i es) Q) =
    (mtB (ltInt (Int.ofNat i) (Int.ofNat k)) (indexAddrA Tryz.prog 35 K (AV.int IntKind.i64 (Int.ofNat i)) = some (AV.fptr [AV.int IntKind.i64 a, AV.int IntKind.i64 b, AV.int IntKind.i64 c, E, L] 0) ∧ oblB (fitsT Tryz.prog 37 (AV.agg [AV.int IntKind.i64 a, AV.int IntKind.i64 b, AV.int IntKind.i64 c, E, L]) 5) (SemCall Tryz.prog opts0.glob 160 [AV.agg [AV.int IntKind.i64 a, AV.int IntKind.i64 b, AV.int IntKind.i64 c, E, L]] (AV.agg [AV.int IntKind.i64 a, AV.int IntKind.i64 b, AV.int IntKind.i64 c, E', L']) ∧ oblB (allSize 5 [AV.agg [AV.int IntKind.i64 a, AV.int IntKind.i64 b, AV.int IntKind.i64 c, E', L']] && (((i + lenN [AV.agg [AV.int IntKind.i64 a, AV.int IntKind.i64 b, AV.int IntKind.i64 c, E', L']]) * 72).ble 140737488355328 && (allOne (flat [AV.agg [AV.int IntKind.i64 a, AV.int IntKind.i64 b, AV.int IntKind.i64 c, E', L']]) && true))) (oblB ((lenN es).beq (i * 5)) ((((K = K ∧ closedA K = true) ∧ (AV.int IntKind.i64 (Int.ofNat k) = AV.int IntKind.i64 (Int.ofNat k) ∧ closedA (AV.int IntKind.i64 (Int.ofNat k)) = true) ∧ (AV.int IntKind.i64 (wrapA IntKind.i64 (Int.ofNat i + 1)) = AV.int IntKind.i64 (Int.ofNat j) ∧ closedA (AV.int IntKind.i64 (Int.ofNat j)) = true) ∧ True) ∧ ((some 0 = some 0 ∧ 0 = 0) ∧ (some 1 = some 1 ∧ 0 = 0) ∧ (true = true ∧ some 12 = some 12 ∧ 0 = 0 ∧ j = i + lenN [AV.agg [AV.int IntKind.i64 a, AV.int IntKind.i64 b, AV.int IntKind.i64 c, E', L']] ∧ 5 = 5) ∧ True) ∧ ([AV.int IntKind.i64 t, AV.int IntKind.i64 y, AV.int IntKind.i64 n, D, K] = [AV.int IntKind.i64 t, AV.int IntKind.i64 y, AV.int IntKind.i64 n, D, K] ∧ closedAll [AV.int IntKind.i64 t, AV.int IntKind.i64 y, AV.int IntKind.i64 n, D, K] = true) ∧ ([AV.int IntKind.i64 0, AV.int IntKind.i64 0, AV.int IntKind.i64 0, AV.nilsl, AV.nilsl] = [AV.int IntKind.i64 0, AV.int IntKind.i64 0, AV.int IntKind.i64 0, AV.nilsl, AV.nilsl] ∧ true = true) ∧ (es ++ flat [AV.agg [AV.int IntKind.i64 a, AV.int IntKind.i64 b, AV.int IntKind.i64 c, E', L']] = es' ∧ closedAll es' = true) ∧ True) ∧ N)))) ((((K = K ∧ closedA K = true) ∧ (AV.int IntKind.i64 (Int.ofNat k) = AV.int IntKind.i64 (Int.ofNat k) ∧ closedA (AV.int IntKind.i64 (Int.ofNat k)) = true) ∧ (AV.int IntKind.i64 (Int.ofNat i) = AV.int IntKind.i64 (Int.ofNat i) ∧ closedA (AV.int IntKind.i64 (Int.ofNat i)) = true) ∧ True) ∧ ((some 0 = some 0 ∧ 0 = 0) ∧ (some 1 = some 1 ∧ 0 = 0) ∧ (true = true ∧ some 2 = some 2 ∧ 0 = 0 ∧ i = i ∧ 5 = 5) ∧ True) ∧ ([AV.int IntKind.i64 t, AV.int IntKind.i64 y, AV.int IntKind.i64 n, D, K] = [AV.int IntKind.i64 t, AV.int IntKind.i64 y, AV.int IntKind.i64 n, D, K] ∧ closedAll [AV.int IntKind.i64 t, AV.int IntKind.i64 y, AV.int IntKind.i64 n, D, K] = true) ∧ ([AV.int IntKind.i64 0, AV.int IntKind.i64 0, AV.int IntKind.i64 0, AV.nilsl, AV.nilsl] = [AV.int IntKind.i64 0, AV.int IntKind.i64 0, AV.int IntKind.i64 0, AV.nilsl, AV.nilsl] ∧ true = true) ∧ (es = es ∧ closedAll es = true) ∧ True) ∧ Q (AExit.exit 0) (cpV t y n D K k i es).st)) := by kernel_rfl
noncomputable def cpL0 (t y n : Int) (D K : AV) : LoopS := fun s Q => seesK 0 [(0, 0), (1, 1)] (cpV0 t y n D K 0) s ∧ Q (.exit 0) (cpV0 t y n D K 0).st
noncomputable def cpL1 (t y n : Int) (D K : AV) (k : Nat) (es : List AV) : LoopS := fun s Q => seesK 0 [(0, 0), (1, 1)] (cpV0 t y n D K k) s ∧ Q (.exit 0) (cpV t y n D K k k es).st
noncomputable def cpB (k : Nat) (d' : AV) (L : LoopS) : Aid := aidS (manyH [(3, 2, .res (I (.ofNat k)))]) (manyL [(5, L)]) (manyS [(118, d')])
theorem cp_fn0 (t y n : Int) (D K D' : AV) (Q : AV → Heap → Nat → Prop) : fnK Tryz.prog opts0 40 (cpB 0 D' (cpL0 t y n D' K)) 160 [.agg [I t, I y, I n, D, K]] [] 0 Q =
    (SemCall Tryz.prog opts0.glob 118 [D] D' ∧ oblB (fitsT Tryz.prog 23 D' 1) (builtinA Tryz.prog Builtin.len { toList := [35] } [K] = some (Eff.val (AV.int IntKind.i64 0)) ∧ (((K = K ∧ closedA K = true) ∧ (AV.int IntKind.i64 0 = AV.int IntKind.i64 0 ∧ true = true) ∧ (AV.int IntKind.i64 0 = AV.int IntKind.i64 0 ∧ true = true) ∧ (AV.nilsl = AV.nilsl ∧ true = true) ∧ True) ∧ ((some 0 = some 0 ∧ 0 = 0) ∧ (some 1 = some 1 ∧ 0 = 0) ∧ True) ∧ ([AV.int IntKind.i64 t, AV.int IntKind.i64 y, AV.int IntKind.i64 n, D', K] = [AV.int IntKind.i64 t, AV.int IntKind.i64 y, AV.int IntKind.i64 n, D', K] ∧ closedAll [AV.int IntKind.i64 t, AV.int IntKind.i64 y, AV.int IntKind.i64 n, D', K] = true) ∧ ([AV.int IntKind.i64 0, AV.int IntKind.i64 0, AV.int IntKind.i64 0, AV.nilsl, AV.nilsl] = [AV.int IntKind.i64 0, AV.int IntKind.i64 0, AV.int IntKind.i64 0, AV.nilsl, AV.nilsl] ∧ true = true) ∧ True) ∧ oblB (fitsT Tryz.prog 37 (AV.agg [AV.int IntKind.i64 t, AV.int IntKind.i64 y, AV.int IntKind.i64 n, D', AV.nilsl]) 5) (Q (AV.agg [AV.int IntKind.i64 t, AV.int IntKind.i64 y, AV.int IntKind.i64 n, D', AV.nilsl]) [(1, some (Blk.cells [AV.int IntKind.i64 t, AV.int IntKind.i64 y, AV.int IntKind.i64 n, D', AV.nilsl])), (0, some (Blk.cells [AV.int IntKind.i64 t, AV.int IntKind.i64 y, AV.int IntKind.i64 n, D', AV.nilsl])), (1, some (Blk.cells [AV.int IntKind.i64 0, AV.int IntKind.i64 0, AV.int IntKind.i64 0, AV.nilsl, AV.nilsl]))] 8))) := by kernel_rfl
theorem cp_fn1 (t y n : Int) (D K D' : AV) (k : Nat) (es : List AV) (Q : AV → Heap → Nat → Prop) : fnK Tryz.prog opts0 40 (cpB k D' (cpL1 t y n D' K k es)) 160 [.agg [I t, I y, I n, D, K]] [] 0 Q =
    (SemCall Tryz.prog opts0.glob 118 [D] D' ∧ oblB (fitsT Tryz.prog 23 D' 1) (builtinA Tryz.prog Builtin.len { toList := [35] } [K] = some (Eff.val (AV.int IntKind.i64 (Int.ofNat k))) ∧ (((K = K ∧ closedA K = true) ∧ (AV.int IntKind.i64 (Int.ofNat k) = AV.int IntKind.i64 (Int.ofNat k) ∧ closedA (AV.int IntKind.i64 (Int.ofNat k)) = true) ∧ (AV.int IntKind.i64 0 = AV.int IntKind.i64 0 ∧ true = true) ∧ (AV.nilsl = AV.nilsl ∧ true = true) ∧ True) ∧ ((some 0 = some 0 ∧ 0 = 0) ∧ (some 1 = some 1 ∧ 0 = 0) ∧ True) ∧ ([AV.int IntKind.i64 t, AV.int IntKind.i64 y, AV.int IntKind.i64 n, D', K] = [AV.int IntKind.i64 t, AV.int IntKind.i64 y, AV.int IntKind.i64 n, D', K] ∧ closedAll [AV.int IntKind.i64 t, AV.int IntKind.i64 y, AV.int IntKind.i64 n, D', K] = true) ∧ ([AV.int IntKind.i64 0, AV.int IntKind.i64 0, AV.int IntKind.i64 0, AV.nilsl, AV.nilsl] = [AV.int IntKind.i64 0, AV.int IntKind.i64 0, AV.int IntKind.i64 0, AV.nilsl, AV.nilsl] ∧ true = true) ∧ True) ∧ oblB (fitsT Tryz.prog 37 (AV.agg [AV.int IntKind.i64 t, AV.int IntKind.i64 y, AV.int IntKind.i64 n, D', AV.rsl true 2 0 k 5]) 5) (Q (AV.agg [AV.int IntKind.i64 t, AV.int IntKind.i64 y, AV.int IntKind.i64 n, D', AV.rsl true 2 0 k 5]) [(1, some (Blk.cells [AV.int IntKind.i64 t, AV.int IntKind.i64 y, AV.int IntKind.i64 n, D', AV.rsl true 2 0 k 5])), (0, some (Blk.cells [AV.int IntKind.i64 t, AV.int IntKind.i64 y, AV.int IntKind.i64 n, D', AV.rsl true 2 0 k 5])), (1, some (Blk.cells [AV.int IntKind.i64 0, AV.int IntKind.i64 0, AV.int IntKind.i64 0, AV.nilsl, AV.nilsl])), (2, some (Blk.cells es))] 8))) := by kernel_rfl

theorem cp_at : loopsAt (fnCode Tryz.prog 160) 5 = [lpCode Tryz.prog 160 5] := by kernel_rfl
theorem itemT : isAggA Tryz.prog 37 = some true := by kernel_rfl
theorem rowDT : isAggA Tryz.prog 23 = some false := by kernel_rfl
theorem rowKT : isAggA Tryz.prog 35 = some false := by kernel_rfl

/-- What is copied so far, as cells. -/
def cpE (ks : List It) (i : Nat) : List AV := flat (itAs (copyIs (ks.take i)))
theorem goodEl_it (x : It) : goodEl 5 (itA x) := by cases x; exact ⟨rfl, rfl⟩
theorem goodEl_its {ks : List It} : ∀ e ∈ itAs ks, goodEl 5 e := fun e he => by
  rw [itAs_map] at he
  obtain ⟨x, _, rfl⟩ := List.mem_map.1 he
  exact goodEl_it x
theorem its_append (a b : List It) : itAs (a ++ b) = itAs a ++ itAs b := by simp [itAs_map]
theorem cpE_succ {ks : List It} {i : Nat} {x : It} (h : ks[i]? = some x) : cpE ks i ++ flat [itA (copyI x)] = cpE ks (i + 1) := by
  have : ks.take (i + 1) = ks.take i ++ [x] := by rw [List.take_add_one, h]; rfl
  simp only [cpE, this, copyIs_map, List.map_append, its_append, flat_append, List.map_cons, List.map_nil, itAs]
theorem its_length (l : List It) : (itAs l).length = l.length := by simp [itAs_map]
theorem flat_len5 : ∀ l : List It, (flat (itAs l)).length = l.length * 5
  | [] => rfl
  | .mk _ _ _ _ _ _ _ :: r => by simp only [itAs, flat, itA, AV.cells, List.length_append, flat_len5 r, List.length_cons, List.length_nil]; omega
theorem cpE_len {ks : List It} {i : Nat} (h : i ≤ ks.length) : (cpE ks i).length = i * 5 := by
  rw [cpE, flat_len5, copyIs_map, List.length_map, List.length_take, Nat.min_eq_left h]
theorem closed_flat : ∀ {l : List AV}, closedAll l = true → closedAll (flat l) = true
  | [], _ => rfl
  | a :: t, h => by
    simp only [closedAll, Bool.and_eq_true] at h
    rw [flat, closedAll_append, closed_flat h.2, Bool.and_true]
    cases a <;> first | exact h.1 | simpa [AV.cells, closedAll] using h.1
theorem cpE_closed {ks : List It} {i : Nat} : closedAll (cpE ks i) = true := closed_flat (closed_its _)

set_option maxRecDepth 20000 in
theorem cp_loop {t y n : Int} {D : AV} {kf : Option Bool} {ks : List It} {Q : AExit → St → Prop} (hD : closedA D = true) (hk : kf = none → ks = []) (hb : ks.length ≤ big)
    (ih : ∀ (i : Nat) (x : It), ks[i]? = some x → SemCall Tryz.prog opts0.glob 160 [itA x] (itA (copyI x))) (hq : Q (.exit 0) (cpV t y n D (rowV kf (itAs ks)) ks.length ks.length (cpE ks ks.length)).st) :
    ∀ (m i : Nat), i + m = ks.length → 0 < i → ALp Tryz.prog opts0.glob 0 (lpCode Tryz.prog 160 5) (cpV t y n D (rowV kf (itAs ks)) ks.length i (cpE ks i)).st Q
  | 0, i, hi, _ => by
    obtain rfl : i = ks.length := by omega
    refine ALp.round (A := cpA [I 0, I 0, I 0, D, D] (.agg [I 0, I 0, I 0, D, D])) (V1 := cpV t y n D (rowV kf (itAs ks)) ks.length 0 []) (F := cpV t y n D (rowV kf (itAs ks)) ks.length ks.length (cpE ks ks.length)) (lk := [(0, 0), (1, 1), (2, 12)]) (lk' := [(0, 0), (1, 1), (2, 2)]) base0 (aidS_ok sum0) (LsOk.no rfl) .refl ?_
    rw [cp_round1]
    refine mtB_of (fun h => ?_) (fun _ => ⟨by simp [closedA, closedAll, hD, closed_rowA (closed_its _), cpE_closed], hq⟩)
    have h : (ks.length : Int) < ks.length := ltInt_iff.1 h
    omega
  | m + 1, i, hi, h0 => by
    have h1 : i < ks.length := by omega
    have g1 : ks[i]? = some ks[i] := List.getElem?_eq_getElem h1
    have hs := ih i _ g1
    have hE := cpE_succ g1
    revert hs g1 hE
    generalize ks[i] = x
    intro g1 hs hE
    obtain ⟨a, b, c, ef, e, lf, l⟩ := x
    refine ALp.round (A := cpA [I a, I b, I c, rowV ef (toBytes e), rowV lf (itAs l)] (itA (copyI (.mk a b c ef e lf l)))) (V1 := cpV t y n D (rowV kf (itAs ks)) ks.length (i + 1) (cpE ks (i + 1))) (V2 := cpV t y n D (rowV kf (itAs ks)) ks.length (i + 1) (cpE ks (i + 1))) (F := cpV t y n D (rowV kf (itAs ks)) ks.length i (cpE ks i)) (lk := [(0, 0), (1, 1), (2, 12)]) (lk' := [(0, 0), (1, 1), (2, 2)]) base0 (aidS_ok sum0) (LsOk.no rfl) .refl ?_
    simp only [copyI, itA] at hs hE ⊢
    rw [cp_round1]
    refine mtB_of (fun _ => And.intro ?_ (oblB_of ?_ (And.intro hs (oblB_of ?_ (oblB_of ?_ (And.intro ?_ ?_)))))) (fun h => ?_)
    · exact rowV_index (v := itA (.mk a b c ef e lf l)) (e := 37) (sz := 5) (by kernel_rfl) (by kernel_rfl) (fun h => by rw [hk h]; rfl) (by rw [itAs_map, List.getElem?_map, g1]; rfl) rfl
    · exact fits_agg itemT rfl (by simp [allOne])
    · simp [allSize, lenN, AV.cells, flat, allOne]
      have hb : ks.length ≤ 1099511627776 := hb
      omega
    · rw [beq_iff, lenN_eq, cpE_len (by omega)]
    · have hb : ks.length ≤ 1099511627776 := hb
      rw [wrapA_i64 (by simp; omega) (by simp; omega)]
      simp [closedA, closedAll, hD, closed_rowA (closed_its _), cpE_closed, hE, lenN]
    · exact cp_loop hD hk hb ih hq m (i + 1) (by omega) (by omega)
    · have h : (ks.length : Int) ≤ i := ltInt_false.1 h
      omega

set_option maxRecDepth 20000 in
theorem cp_start {t y n : Int} {D : AV} {kf : Option Bool} {ks : List It} {Q : AExit → St → Prop} (hD : closedA D = true) (hk : kf = none → ks = []) (hb : ks.length ≤ big) (h0 : ks ≠ [])
    (ih : ∀ (i : Nat) (x : It), ks[i]? = some x → SemCall Tryz.prog opts0.glob 160 [itA x] (itA (copyI x))) (hq : Q (.exit 0) (cpV t y n D (rowV kf (itAs ks)) ks.length ks.length (cpE ks ks.length)).st) :
    ALp Tryz.prog opts0.glob 0 (lpCode Tryz.prog 160 5) (cpV0 t y n D (rowV kf (itAs ks)) ks.length).st Q := by
  have hpos : 0 < ks.length := List.length_pos_iff.2 h0
  have g1 : ks[0]? = some ks[0] := List.getElem?_eq_getElem hpos
  have hs := ih 0 _ g1
  have hE := cpE_succ g1
  have hE0 : cpE ks 0 = [] := rfl
  revert hs g1 hE
  generalize ks[0] = x
  intro g1 hs hE
  rw [hE0, List.nil_append] at hE
  obtain ⟨a, b, c, ef, e, lf, l⟩ := x
  refine ALp.round (A := cpA [I a, I b, I c, rowV ef (toBytes e), rowV lf (itAs l)] (itA (copyI (.mk a b c ef e lf l)))) (V1 := cpV t y n D (rowV kf (itAs ks)) ks.length 1 (cpE ks 1)) (V2 := cpV t y n D (rowV kf (itAs ks)) ks.length 1 (cpE ks 1)) (F := cpV0 t y n D (rowV kf (itAs ks)) ks.length) (lk := [(0, 0), (1, 1), (2, 12)]) (lk' := [(0, 0), (1, 1)]) base0 (aidS_ok sum0) (LsOk.no rfl) .refl ?_
  simp only [copyI, itA] at hs hE ⊢
  rw [cp_round0]
  refine mtB_of (fun _ => And.intro ?_ (oblB_of ?_ (And.intro hs (And.intro ?_ ?_)))) (fun h => ?_)
  · exact rowV_index (v := itA (.mk a b c ef e lf l)) (e := 37) (sz := 5) (i := 0) (by kernel_rfl) (by kernel_rfl) (fun h => by rw [hk h]; rfl) (by rw [itAs_map, List.getElem?_map, g1]; rfl) rfl
  · exact fits_agg itemT rfl (by simp [allOne])
  · simp [closedA, closedAll, hD, closed_rowA (closed_its _), cpE_closed, hE, lenN]
  · exact cp_loop hD hk hb ih hq (ks.length - 1) 1 (by omega) (by omega)
  · have h : (ks.length : Int) ≤ 0 := ltInt_false.1 h
    omega

theorem cloneF_bytes (f : Option Bool) (d : List UInt8) : cloneF f (toBytes d) = copyDF f d := by
  cases f <;> cases d <;> rfl
theorem copyI_mk (t y n : Int) (df : Option Bool) (d : List UInt8) (kf : Option Bool) (ks : List It) : copyI (.mk t y n df d kf ks) = .mk t y n (copyDF df d) d (copyKF ks) (copyIs ks) := by simp only [copyI]

set_option maxRecDepth 20000 in
theorem cp_body {t y n : Int} {df kf : Option Bool} {d : List UInt8} {ks : List It} (h : okI big (.mk t y n df d kf ks))
    (ih : ∀ (i : Nat) (x : It), ks[i]? = some x → SemCall Tryz.prog opts0.glob 160 [itA x] (itA (copyI x))) :
    SemCall Tryz.prog opts0.glob 160 [itA (.mk t y n df d kf ks)] (itA (copyI (.mk t y n df d kf ks))) := by
  simp only [okI] at h
  obtain ⟨h1, h2, h3, h4, h5⟩ := h
  have hcl := cloneB_sem (f := df) (l := toBytes d) (fun h => by rw [h1 h]; rfl) goodEl_toBytes (by simp) (by rw [← lenN_eq, lenN_toBytes]; exact h3)
  rw [cloneF_bytes] at hcl
  have cD : ∀ {f : Option Bool} {b : List UInt8}, closedA (rowV f (toBytes b)) = true := closed_rowA (by simp)
  have cK : ∀ {f : Option Bool} {l : List It}, closedA (rowV f (itAs l)) = true := closed_rowA (closed_its _)
  have hlen := lenK h2
  rw [copyI_mk]
  cases ks with
  | nil =>
    refine fnK_sem (A := cpB 0 (rowV (copyDF df d) (toBytes d)) (cpL0 t y n (rowV (copyDF df d) (toBytes d)) (rowV kf (itAs [])))) base0 (aidS_ok sum0)
      (fnLs_of (LsOk.at1 rfl cp_at fun s Q hs => .seen base0.glob hs.1 ?_)) (by simp [closedAll, closed_it]) ?_
    · refine ALp.round (A := cpA [I 0, I 0, I 0, .nilsl, .nilsl] (.agg [I 0, I 0, I 0, .nilsl, .nilsl])) (V1 := cpV t y n (rowV (copyDF df d) (toBytes d)) (rowV kf (itAs [])) 0 1 []) (F := cpV0 t y n (rowV (copyDF df d) (toBytes d)) (rowV kf (itAs [])) 0) (lk := [(0, 0), (1, 1), (2, 12)]) (lk' := [(0, 0), (1, 1)]) base0 (aidS_ok sum0) (LsOk.no rfl) .refl ?_
      rw [cp_round0]
      refine mtB_of (fun h => ?_) (fun _ => ⟨by simp [closedA, closedAll, cD, cK], hs.2⟩)
      have h : (0 : Int) < 0 := ltInt_iff.1 h
      omega
    · simp only [itA]
      rw [cp_fn0]
      refine And.intro hcl (oblB_of (fits_row rowDT) (And.intro hlen (And.intro (by simp [closedA, closedAll, cD, cK]) (oblB_of (fits_agg itemT rfl (by simp [allOne]; rfl)) ?_))))
      simp only [copyKF, copyIs, itAs, rowN]
      exact fin_closed (by simp [closedA, closedAll, cD])
  | cons k r =>
    refine fnK_sem (A := cpB (k :: r).length (rowV (copyDF df d) (toBytes d)) (cpL1 t y n (rowV (copyDF df d) (toBytes d)) (rowV kf (itAs (k :: r))) (k :: r).length (cpE (k :: r) (k :: r).length))) base0 (aidS_ok sum0)
      (fnLs_of (LsOk.at1 rfl cp_at fun s Q hs => .seen base0.glob hs.1 (cp_start cD h2 h4 (by simp) ih hs.2))) (by simp [closedAll, closed_it]) ?_
    simp only [itA]
    rw [cp_fn1]
    simp only [copyKF, rowS]
    refine And.intro hcl (oblB_of (fits_row rowDT) (And.intro hlen (And.intro (by simp [closedA, closedAll, cD, cK]) (oblB_of (fits_agg itemT rfl (by simp [allOne]; rfl)) ?_))))
    refine fin_frz (Frz.agg (FrzL.cons (Frz.closed _ rfl) (FrzL.cons (Frz.closed _ rfl) (FrzL.cons (Frz.closed _ rfl) (FrzL.cons (Frz.closed _ cD) (FrzL.cons (Frz.row (es := itAs (copyIs (k :: r))) rfl rfl ?_ ?_ goodEl_its (closed_its _)) FrzL.nil)))))) (by simp [closedA, closedAll, cD, closed_its])
    · rw [cpE, List.take_length]
    · rw [its_length, copyIs_map, List.length_map]

mutual
theorem copied_sem : ∀ x : It, okI big x → SemCall Tryz.prog opts0.glob 160 [itA x] (itA (copyI x))
  | .mk _ _ _ _ _ _ ks, h => cp_body h fun i x hx => copied_sems ks x (List.mem_of_getElem? hx) (okIs_iff.1 h.2.2.2.2 x (List.mem_of_getElem? hx))
theorem copied_sems : ∀ ks : List It, ∀ x ∈ ks, okI big x → SemCall Tryz.prog opts0.glob 160 [itA x] (itA (copyI x))
  | [], _, hx, _ => by cases hx
  | k :: r, x, hx, h => by
    have h1 := copied_sem k
    have h2 := copied_sems r x
    rcases List.mem_cons.1 hx with e | hx
    · rw [e] at h ⊢; exact h1 h
    · exact h2 hx h
end

end Go.Proofs.YtjhggnebkfpgcaaGreatDoor
