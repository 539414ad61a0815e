/- Items: the same, copied. -/
import Derived.Test.YtjhggnebkfpgcaaGreatDoorBs
import Derived.Test.YtjhggnebkfpgcaaGreatDoorG5
import Derived.KernelRfl
namespace Go.Proofs.YtjhggnebkfpgcaaGreatDoor
open Go Go.RowKit
open Go.Proofs.Abs

/-- How many may be. -/
abbrev big : Nat := 1099511627776

def smC (t y n : Int) (D K : AV) : List AV := [I t, I y, I n, D, K]
noncomputable def smV (t y n t' y' n' : Int) (D K D' K' : AV) (i : Nat) : View := ⟨[(4, .bool false), (5, I (.ofNat i))], [(2, .ptr 0 0), (3, .ptr 1 0)], [(0, .cells (smC t y n D K), .whole), (1, .cells (smC t' y' n' D' K'), .whole)], 2, 62⟩
noncomputable def smF : View := ⟨[(4, .bool false)], [], [], 2, 62⟩
noncomputable def smA (k : Nat) (c c' : List AV) (r : Bool) : Aid := aidS (manyH [(4, 3, .res (I (.ofNat k))), (6, 3, .res (.fptr c 0)), (6, 8, .res (.fptr c' 0))]) (fun _ => none) (manyS [(35, .bool r)])
theorem sm_round (t y n t' y' n' a b c a' b' c' : Int) (D K D' K' E L E' L' : AV) (i k : Nat) (r : Bool) (N : Prop) (Q : AExit → St → Prop) : wpK Tryz.prog opts0 40 (smA k [I a, I b, I c, E, L] [I a', I b', I c', E', L'] r) (lpCode Tryz.prog 35 5) (smV t y n t' y' n' D K D' K' i).st (roundP 0 [(0, 0), (1, 1)] (smV t y n t' y' n' D K D' K' (i + 1)) N [] smF Q) =
    (builtinA Tryz.prog Builtin.len { toList := [35] } [K] = some (Eff.val (AV.int IntKind.i64 (Int.ofNat k))) ∧ mtB (ltInt (Int.ofNat i) (Int.ofNat k)) (indexAddrA Tryz.prog 35 K (AV.int IntKind.i64 (Int.ofNat i)) = some (AV.fptr [AV.int IntKind.i64 a, AV.int IntKind.i64 b, AV.int IntKind.i64 c, E, L] 0) ∧ indexAddrA Tryz.prog 35 K' (AV.int IntKind.i64 (Int.ofNat i)) = some (AV.fptr [AV.int IntKind.i64 a', AV.int IntKind.i64 b', AV.int IntKind.i64 c', E', L'] 0) ∧ SemCall Tryz.prog opts0.glob 35 [AV.agg [AV.int IntKind.i64 a, AV.int IntKind.i64 b, AV.int IntKind.i64 c, E, L], AV.agg [AV.int IntKind.i64 a', AV.int IntKind.i64 b', AV.int IntKind.i64 c', E', L']] (AV.bool r) ∧ mtB (!r) ((((AV.bool false = AV.bool false ∧ true = true) ∧ True) ∧ True ∧ True) ∧ Q AExit.ret smF.st) ((((AV.bool false = AV.bool false ∧ true = true) ∧ (AV.int IntKind.i64 (wrapA IntKind.i64 (Int.ofNat i + 1)) = AV.int IntKind.i64 (Int.ofNat (i + 1)) ∧ closedA (AV.int IntKind.i64 (Int.ofNat (i + 1))) = true) ∧ True) ∧ ((some 0 = some 0 ∧ 0 = 0) ∧ (some 1 = some 1 ∧ 0 = 0) ∧ True) ∧ ([AV.int IntKind.i64 t, AV.int IntKind.i64 y, AV.int IntKind.i64 n, D, K] = [AV.int IntKind.i64 t, AV.int IntKind.i64 y, AV.int IntKind.i64 n, D, K] ∧ closedAll [AV.int IntKind.i64 t, AV.int IntKind.i64 y, AV.int IntKind.i64 n, D, K] = true) ∧ ([AV.int IntKind.i64 t', AV.int IntKind.i64 y', AV.int IntKind.i64 n', D', K'] = [AV.int IntKind.i64 t', AV.int IntKind.i64 y', AV.int IntKind.i64 n', D', K'] ∧ closedAll [AV.int IntKind.i64 t', AV.int IntKind.i64 y', AV.int IntKind.i64 n', D', K'] = true) ∧ True) ∧ N)) ((((AV.bool false = AV.bool false ∧ true = true) ∧ True) ∧ True ∧ True) ∧ Q (AExit.exit 0) smF.st)) := by kernel_rfl

theorem sm_loop {t y n t' y' n' : Int} {D D' : AV} {kf kf' : Option Bool} {ks ks' : List It} {Q : AExit → St → Prop} (hD : closedA D = true) (hD' : closedA D' = true) (hk : kf = none → ks = []) (hk' : kf' = none → ks' = []) (hb : ks.length ≤ big) (hl : ks.length = ks'.length)
    (ih : ∀ (i : Nat) (x z : It), ks[i]? = some x → ks'[i]? = some z → SemCall Tryz.prog opts0.glob 35 [itA x, itA z] (.bool (sameI x z))) :
    ∀ (m i : Nat), i + m = ks.length → mtB (sameIs (ks.drop i) (ks'.drop i)) (Q (.exit 0) smF.st) (Q .ret smF.st) → ALp Tryz.prog opts0.glob 0 (lpCode Tryz.prog 35 5) (smV t y n t' y' n' D (rowV kf (itAs ks)) D' (rowV kf' (itAs ks')) i).st Q
  | 0, i, hi, hq => by
    refine ALp.round (A := smA ks.length [I 0, I 0, I 0, D, D] [I 0, I 0, I 0, D, D] true) (V1 := smV t y n t' y' n' D (rowV kf (itAs ks)) D' (rowV kf' (itAs ks')) (i + 1)) (F := smF) (lk := [(0, 0), (1, 1)]) (lk' := []) base0 (aidS_ok sum0) (LsOk.no rfl) .refl ?_
    rw [sm_round]
    refine ⟨?_, mtB_of (fun h => ?_) (fun _ => ?_)⟩
    · rw [rowV_len (t := 35) (e := 37) rfl (by kernel_rfl) (fun h => by rw [hk h]; rfl), itAs_map, List.length_map]
    · have h : (i : Int) < ks.length := ltInt_iff.1 h
      omega
    · rw [List.drop_of_length_le (by omega), List.drop_of_length_le (by omega)] at hq
      exact ⟨by simp [closedA], hq⟩
  | m + 1, i, hi, hq => by
    have h1 : i < ks.length := by omega
    have h2 : i < ks'.length := by omega
    rw [List.drop_eq_getElem_cons h1, List.drop_eq_getElem_cons h2, sameIs] at hq
    have g1 : ks[i]? = some ks[i] := List.getElem?_eq_getElem h1
    have g2 : ks'[i]? = some ks'[i] := List.getElem?_eq_getElem h2
    have hs := ih i _ _ g1 g2
    revert hs g1 g2 hq
    generalize ks[i] = x
    generalize ks'[i] = z
    intro hq g1 g2 hs
    obtain ⟨a, b, c, ef, e, lf, l⟩ := x
    obtain ⟨a', b', c', ef', e', lf', l'⟩ := z
    refine ALp.round (A := smA ks.length [I a, I b, I c, rowV ef (toBytes e), rowV lf (itAs l)] [I a', I b', I c', rowV ef' (toBytes e'), rowV lf' (itAs l')] (sameI (.mk a b c ef e lf l) (.mk a' b' c' ef' e' lf' l'))) (V1 := smV t y n t' y' n' D (rowV kf (itAs ks)) D' (rowV kf' (itAs ks')) (i + 1)) (F := smF) (lk := [(0, 0), (1, 1)]) (lk' := []) base0 (aidS_ok sum0) (LsOk.no rfl) .refl ?_
    rw [sm_round]
    refine ⟨?_, mtB_of (fun _ => ⟨?_, ?_, hs, mtB_of (fun h => ?_) (fun h => ?_)⟩) (fun h => ?_)⟩
    · rw [rowV_len (t := 35) (e := 37) rfl (by kernel_rfl) (fun h => by rw [hk h]; rfl), itAs_map, List.length_map]
    · exact rowV_index (v := itA (.mk a b c ef e lf l)) (e := 37) (sz := 5) (by kernel_rfl) (by kernel_rfl) (fun h => by rw [hk h]; rfl) (by rw [itAs_map, List.getElem?_map, g1]; rfl) rfl
    · exact rowV_index (v := itA (.mk a' b' c' ef' e' lf' l')) (e := 37) (sz := 5) (by kernel_rfl) (by kernel_rfl) (fun h => by rw [hk' h]; rfl) (by rw [itAs_map, List.getElem?_map, g2]; rfl) rfl
    · rw [Bool.not_eq_true'] at h
      rw [h] at hq
      exact ⟨by simp [closedA], hq⟩
    · rw [Bool.not_eq_false'] at h
      rw [h] at hq
      have hb : ks.length ≤ 1099511627776 := hb
      rw [wrapA_i64 (by simp; omega) (by simp; omega)]
      refine ⟨by simp [closedA, closedAll, hD, hD', closed_rowA (closed_its _)], sm_loop hD hD' hk hk' hb hl ih m (i + 1) (by omega) hq⟩
    · have h : (ks.length : Int) ≤ i := ltInt_false.1 h
      omega

noncomputable def smL (t y n t' y' n' : Int) (D K D' K' : AV) (p : Prop) (r : Bool) : LoopS := fun s Q => p ∧ seesK 0 [(0, 0), (1, 1)] (smV t y n t' y' n' D K D' K' 0) s ∧ mtB r (Q (.exit 0) smF.st) (Q .ret smF.st)
noncomputable def smB (d d' : List UInt8) (k k' : Nat) (L : LoopS) : Aid := aidS (manyH [(1, 22, .res (.str d)), (1, 25, .res (.str d')), (1, 31, .res (I (.ofNat k))), (1, 34, .res (I (.ofNat k')))]) (manyL [(5, L)]) noSem
theorem sm_fn (t y n t' y' n' : Int) (D K D' K' : AV) (d d' : List UInt8) (k k' : Nat) (p : Prop) (r : Bool) (Q : AV → Heap → Nat → Prop) : fnK Tryz.prog opts0 40 (smB d d' k k' (smL t y n t' y' n' D K D' K' p r)) 35 [.agg [I t, I y, I n, D, K], .agg [I t', I y', I n', D', K']] [] 0 Q =
    (mtB (!beqInt t t') (Q (AV.bool false) [(1, some (Blk.cells [AV.int IntKind.i64 t', AV.int IntKind.i64 y', AV.int IntKind.i64 n', D', K'])), (0, some (Blk.cells [AV.int IntKind.i64 t, AV.int IntKind.i64 y, AV.int IntKind.i64 n, D, K]))] 41) (mtB (!beqInt y y') (Q (AV.bool false) [(1, some (Blk.cells [AV.int IntKind.i64 t', AV.int IntKind.i64 y', AV.int IntKind.i64 n', D', K'])), (0, some (Blk.cells [AV.int IntKind.i64 t, AV.int IntKind.i64 y, AV.int IntKind.i64 n, D, K]))] 41) (mtB (!beqInt n n') (Q (AV.bool false) [(1, some (Blk.cells [AV.int IntKind.i64 t', AV.int IntKind.i64 y', AV.int IntKind.i64 n', D', K'])), (0, some (Blk.cells [AV.int IntKind.i64 t, AV.int IntKind.i64 y, AV.int IntKind.i64 n, D, K]))] 41) (convA Tryz.prog 23 9 D = some (Eff.val (AV.str d)) ∧ convA Tryz.prog 23 9 D' = some (Eff.val (AV.str d')) ∧ mtB (!beqBytes d d') (Q (AV.bool false) [(1, some (Blk.cells [AV.int IntKind.i64 t', AV.int IntKind.i64 y', AV.int IntKind.i64 n', D', K'])), (0, some (Blk.cells [AV.int IntKind.i64 t, AV.int IntKind.i64 y, AV.int IntKind.i64 n, D, K]))] 41) (builtinA Tryz.prog Builtin.len { toList := [35] } [K] = some (Eff.val (AV.int IntKind.i64 (Int.ofNat k))) ∧ builtinA Tryz.prog Builtin.len { toList := [35] } [K'] = some (Eff.val (AV.int IntKind.i64 (Int.ofNat k'))) ∧ mtB (!beqInt (Int.ofNat k) (Int.ofNat k')) (Q (AV.bool false) [(1, some (Blk.cells [AV.int IntKind.i64 t', AV.int IntKind.i64 y', AV.int IntKind.i64 n', D', K'])), (0, some (Blk.cells [AV.int IntKind.i64 t, AV.int IntKind.i64 y, AV.int IntKind.i64 n, D, K]))] 41) (p ∧ (((AV.bool false = AV.bool false ∧ true = true) ∧ (AV.int IntKind.i64 0 = AV.int IntKind.i64 0 ∧ true = true) ∧ True) ∧ ((some 0 = some 0 ∧ 0 = 0) ∧ (some 1 = some 1 ∧ 0 = 0) ∧ True) ∧ ([AV.int IntKind.i64 t, AV.int IntKind.i64 y, AV.int IntKind.i64 n, D, K] = [AV.int IntKind.i64 t, AV.int IntKind.i64 y, AV.int IntKind.i64 n, D, K] ∧ closedAll [AV.int IntKind.i64 t, AV.int IntKind.i64 y, AV.int IntKind.i64 n, D, K] = true) ∧ ([AV.int IntKind.i64 t', AV.int IntKind.i64 y', AV.int IntKind.i64 n', D', K'] = [AV.int IntKind.i64 t', AV.int IntKind.i64 y', AV.int IntKind.i64 n', D', K'] ∧ closedAll [AV.int IntKind.i64 t', AV.int IntKind.i64 y', AV.int IntKind.i64 n', D', K'] = true) ∧ True) ∧ mtB r (Q (AV.bool true) [] 3) (Q (AV.bool false) [] 2))))))) := by kernel_rfl

theorem sm_at : loopsAt (fnCode Tryz.prog 35) 5 = [lpCode Tryz.prog 35 5] := by kernel_rfl

theorem sm_body {t y n t' y' n' : Int} {df df' kf kf' : Option Bool} {d d' : List UInt8} {ks ks' : List It} (h : okI big (.mk t y n df d kf ks)) (h' : okI big (.mk t' y' n' df' d' kf' ks'))
    (ih : ∀ (i : Nat) (x z : It), ks[i]? = some x → ks'[i]? = some z → SemCall Tryz.prog opts0.glob 35 [itA x, itA z] (.bool (sameI x z))) :
    SemCall Tryz.prog opts0.glob 35 [itA (.mk t y n df d kf ks), itA (.mk t' y' n' df' d' kf' ks')] (.bool (sameI (.mk t y n df d kf ks) (.mk t' y' n' df' d' kf' ks'))) := by
  simp only [okI] at h h'
  obtain ⟨h1, h2, h3, h4, h5⟩ := h
  obtain ⟨g1, g2, g3, g4, g5⟩ := h'
  have cD : ∀ {f : Option Bool} {b : List UInt8}, closedA (rowV f (toBytes b)) = true := closed_rowA (by simp)
  have cK : ∀ {f : Option Bool} {l : List It}, closedA (rowV f (itAs l)) = true := closed_rowA (closed_its _)
  refine fnK_sem (A := smB d d' ks.length ks'.length (smL t y n t' y' n' (rowV df (toBytes d)) (rowV kf (itAs ks)) (rowV df' (toBytes d')) (rowV kf' (itAs ks')) (ks.length = ks'.length) (sameIs ks ks'))) base0 (aidS_ok sum0)
    (fnLs_of (LsOk.at1 rfl sm_at fun s Q hs => .seen base0.glob hs.2.1 (sm_loop cD cD h2 g2 h4 hs.1 ih ks.length 0 (by omega) (by simpa using hs.2.2)))) (by simp [closedAll, closed_it]) ?_
  simp only [itA]
  rw [sm_fn]
  simp only [sameI]
  have hlen : ∀ {f : Option Bool} {l : List It}, (f = none → l = []) → builtinA Tryz.prog .len #[35] [rowV f (itAs l)] = some (.val (.int .i64 (.ofNat l.length))) := fun {f l} hf => by
    rw [rowV_len (t := 35) (e := 37) rfl (by kernel_rfl) (fun h => by rw [hf h]; rfl), itAs_map, List.length_map]
  refine mtB_of (fun e => ?_) (fun e => mtB_of (fun e2 => ?_) (fun e2 => mtB_of (fun e3 => ?_) (fun e3 => ⟨rowV_conv (e := 5) (by kernel_rfl) (by kernel_rfl) (by kernel_rfl) h1, rowV_conv (e := 5) (by kernel_rfl) (by kernel_rfl) (by kernel_rfl) g1, mtB_of (fun e4 => ?_) (fun e4 => ⟨hlen h2, hlen g2, mtB_of (fun e5 => ?_) (fun e5 => ⟨?_, by simp [closedAll, closedA, cD, cK], mtB_of (fun e6 => ?_) (fun e6 => ?_)⟩)⟩)⟩)))
  · exact fin_bool (by simp_all)
  · exact fin_bool (by simp_all)
  · exact fin_bool (by simp_all)
  · exact fin_bool (by simp_all)
  · have hne : sameIs ks ks' = false := by
      cases hs : sameIs ks ks' with
      | false => rfl
      | true =>
        rw [sameIs_length hs, Bool.not_eq_true', beqInt_false] at e5
        exact absurd rfl e5
    exact fin_bool (by simp [hne])
  · rw [Bool.not_eq_false', beqInt_iff] at e5
    exact Int.ofNat.inj e5
  · exact fin_bool (by simp_all)
  · exact fin_bool (by simp_all)

mutual
theorem same_sem : ∀ x z : It, okI big x → okI big z → SemCall Tryz.prog opts0.glob 35 [itA x, itA z] (.bool (sameI x z))
  | .mk _ _ _ _ _ _ ks, .mk _ _ _ _ _ _ ks', h, h' => sm_body h h' fun i x z hx hz => same_sems ks x (List.mem_of_getElem? hx) z (okIs_iff.1 h.2.2.2.2 x (List.mem_of_getElem? hx)) (okIs_iff.1 h'.2.2.2.2 z (List.mem_of_getElem? hz))
theorem same_sems : ∀ ks : List It, ∀ x ∈ ks, ∀ z, okI big x → okI big z → SemCall Tryz.prog opts0.glob 35 [itA x, itA z] (.bool (sameI x z))
  | [], _, hx, _, _, _ => by cases hx
  | k :: r, x, hx, z, h, h' => by
    have h1 := same_sem k z
    have h2 := same_sems r x
    rcases List.mem_cons.1 hx with e | hx
    · rw [e] at h ⊢; exact h1 h h'
    · exact h2 hx z h h'
end

end Go.Proofs.YtjhggnebkfpgcaaGreatDoor
