/- AttrsItems: the law answers true. -/
import Derived.Test.YtjhggnebkfpgcaaGreatDoorLawItems
import Derived.KernelRfl
namespace Go.Proofs.YtjhggnebkfpgcaaGreatDoor
open Go Go.RowKit
open Go.Proofs.Abs

theorem pick_nn {n m : Int} (h : 0 < m) : 0 ≤ n % m := Int.emod_nonneg _ (by omega)
theorem ok_pair {t y n : Int} {l : List It} (hl : l.length ≤ 3) (h : ∀ k ∈ l, okI big k) : okI big (.mk t y n none [] (some false) l) := by
  refine ⟨fun _ => rfl, fun h => (by cases h), by simp, ?_, okIs_iff.2 h⟩
  show l.length ≤ 1099511627776
  omega
theorem ok_pair4 {t y n : Int} {l : List It} (hl : l.length ≤ 4) (h : ∀ k ∈ l, okI big k) : okI big (.mk t y n none [] (some false) l) := by
  refine ⟨fun _ => rfl, fun h => (by cases h), by simp, ?_, okIs_iff.2 h⟩
  show l.length ≤ 1099511627776
  omega
theorem ok_name {s : List UInt8} (h : s.length ≤ big) : okI big (nameI s) := by
  simp only [nameI, okI, okIs]
  exact ⟨by simp, by simp, h, by simp, trivial⟩
theorem cells_frz {m : Nat} {H : Heap} {z y : It} (h : z = y) : FrzL m H (itC y) (itC z) := by rw [h]; exact FrzL.closed _ (closed_itC y)
theorem itC_frz {m : Nat} {H : Heap} (z : It) : FrzL m H (itC z) (itC z) := FrzL.closed _ (closed_itC z)

set_option maxRecDepth 20000 in
theorem law_zero {r : Rw} {how : Int} {f : Option Bool} {l : List Rw} {s : List UInt8} {i : Int} {v x0 : It} (hv : okI big v) (hs : s.length ≤ big) (hi : beqInt i 0 = true) (ha : SemCall Tryz.prog opts0.glob 16 [rwA r] (atA ⟨s, i, v⟩)) (hx0 : okI big x0) (hx : SemCall Tryz.prog opts0.glob 27 [rwV f l] (itA x0)) :
    SemCall Tryz.prog opts0.glob 7 [rwA r, I how, rwV f l] (.bool true) := by
  have qp := pick_sem how (m := 9) (by decide) (by decide)
  have qq := pick_sem (wrapA .i64 (how.tdiv 9)) (m := 4) (by decide) (by decide)
  generalize how % 9 = p at qp
  generalize wrapA .i64 (how.tdiv 9) % 4 = q at qq
  have hn := ok_name hs
  have hix : ∀ {j : Int}, okI big (idxI j) := by simp [idxI, okI, okIs]
  have hlr := layr_sem (a := ⟨s, i, v⟩)
  have hlp := lay_sem (a := ⟨s, i, v⟩) hv
  have hlI : okI big (layR ⟨s, i, v⟩) := by
    simp only [layR, layKids, hi]
    exact ok_pair (by simp) (by simp only [List.mem_cons, List.not_mem_nil, or_false]; rintro k (rfl | rfl | rfl) <;> assumption)
  have hlI2 : okI big (layP ⟨s, i, v⟩) := by
    simp only [layP, layKids, hi]
    have := ok_copy v hv
    exact ok_pair (by simp) (by simp only [List.mem_cons, List.not_mem_nil, or_false]; rintro k (rfl | rfl | rfl) <;> assumption)
  have hsm := same_sem _ _ hlI2 hlI
  have hsr : sameI (layP ⟨s, i, v⟩) (layR ⟨s, i, v⟩) = true := by
    simp only [layP, layR, layKids, hi, sameI, sameIs, sameI_copy, sameI_refl, Bool.and_true]
    rfl
  rw [hsr] at hsm
  obtain ⟨z, hz, z0, z1, z2, z3, z4, z5, z6⟩ := item_turned (p := p) (.mk 4325384 1 0 none [] (some false) [v]) (.mk 4325384 1 0 none [] (some false) [nameI s, idxI (wrapA .i64 (q - 1)), v]) (.mk 4325450 1 0 none [] (some false) [nameI s, v])
    (.mk 4325384 1 0 none [] (some false) [nameI s, v, x0]) x0 (.mk 4325384 1 1 none [] (some false) [nameI s, v]) (.mk 4325384 1 0 none [] (some false) [nameI s, v]) (by
      simp only [List.mem_cons, List.not_mem_nil, or_false]
      rintro z (rfl | rfl | rfl | rfl | rfl | rfl | rfl)
      · exact ok_pair4 (by simp) (by simp only [List.mem_cons, List.not_mem_nil, or_false]; rintro k (rfl | rfl | rfl | rfl) <;> first | assumption | exact hix)
      · exact ok_pair4 (by simp) (by simp only [List.mem_cons, List.not_mem_nil, or_false]; rintro k (rfl | rfl | rfl | rfl) <;> first | assumption | exact hix)
      · exact ok_pair4 (by simp) (by simp only [List.mem_cons, List.not_mem_nil, or_false]; rintro k (rfl | rfl | rfl | rfl) <;> first | assumption | exact hix)
      · exact ok_pair4 (by simp) (by simp only [List.mem_cons, List.not_mem_nil, or_false]; rintro k (rfl | rfl | rfl | rfl) <;> first | assumption | exact hix)
      · exact hx0
      · exact ok_pair4 (by simp) (by simp only [List.mem_cons, List.not_mem_nil, or_false]; rintro k (rfl | rfl | rfl | rfl) <;> first | assumption | exact hix)
      · exact ok_pair4 (by simp) (by simp only [List.mem_cons, List.not_mem_nil, or_false]; rintro k (rfl | rfl | rfl | rfl) <;> first | assumption | exact hix))
  obtain ⟨a, b, ok, ea, eb, hab, oka, okb⟩ := read_both hz
  have hrd := read_sem hz
  have hrr := readr_sem hz
  have hs1 := same1_sem oka okb
  rw [ea] at hrd
  rw [eb] at hrr
  rw [hab] at hs1
  obtain ⟨w, j, u⟩ := a
  obtain ⟨w', j', u'⟩ := b
  obtain ⟨e0, e1, e2, ef, ed, eg, ek⟩ := z
  obtain ⟨u0, u1, u2, uf, ud, ug, uk⟩ := u
  obtain ⟨u0', u1', u2', uf', ud', ug', uk'⟩ := u'
  obtain ⟨t, y, n, df, d, kf, ks⟩ := v
  obtain ⟨x1, x2, x3, xf, xd, xg, xk⟩ := x0
  have hcx := closed_rwV (f := f) (l := l)
  simp only [layR, layP, layKids, hi, copyI_mk] at hlr hlp hsm
  simp only [atA, itC, itA, itAs, rowN, rowS, nameI, idxI, toBytes] at ha hx hlr hlp hsm hrd hrr hs1
  refine fnK_sem (A := liA 12 p q (itA (.mk x1 x2 x3 xf xd xg xk)) (atA ⟨s, i, .mk t y n df d kf ks⟩) (.agg [I 4325384, I 1, I 0, .nilsl, .fsl false [itA (nameI s), itA (.mk t y n df d kf ks)]]) (.agg [I 4325384, I 1, I 0, .nilsl, .fsl false [itA (nameI s), itA (.mk t y n (copyDF df d) d (copyKF ks) (copyIs ks))]])
    (.tuple [atA ⟨w, j, .mk u0 u1 u2 uf ud ug uk⟩, .bool ok]) (.tuple [atA ⟨w', j', .mk u0' u1' u2' uf' ud' ug' uk'⟩, .bool ok]) (itC (.mk e0 e1 e2 ef ed eg ek)) true) base0 (aidC_ok aidJ_ok) (fnLs_of (LsOk.no rfl)) (by simp [closedAll, closedA, rwA, rwC, hcx]) ?_
  simp only [atA, itC]
  have HF0 : ∀ {H : Heap}, Frz 13 H (.ptr 12 0) (.ptr 12 0) := Frz.keepP rfl
  refine Eq.mpr (li2 r how p q (rwV f l) s i t y n x1 x2 x3 e0 e1 e2 (rowV df (toBytes d)) (rowV kf (itAs ks)) (rowV (copyDF df d) (toBytes d)) (rowV (copyKF ks) (itAs (copyIs ks))) (rowV xf (toBytes xd)) (rowV xg (itAs xk)) (rowV ef (toBytes ed)) (rowV eg (itAs ek)) w w' j j' u0 u1 u2 u0' u1' u2' (rowV uf (toBytes ud)) (rowV ug (itAs uk)) (rowV uf' (toBytes ud')) (rowV ug' (itAs uk')) ok ok true _) ?_
  refine And.intro hx (oblB_of (fits_agg itemT rfl (by simp [allOne])) (And.intro ha (oblB_of (fits_agg attrT rfl (by simp [allOne])) (And.intro hlr (And.intro hlp (And.intro hsm (And.intro qp ?_)))))))
  refine mtB_of (fun e => And.intro ⟨⟨HF0, trivial⟩, ?_, trivial⟩ ?_) (fun c0 => ?_)
  · have h := z0 (beqInt_iff.1 e)
    simp only [It.mk.injEq] at h
    obtain ⟨rfl, rfl, rfl, rfl, rfl, rfl, rfl⟩ := h
    exact frz_cells rfl rfl rfl rfl
  · exact And.intro hrd (oblB_of (fits_agg attrT rfl (by simp [allOne])) (And.intro hrr (oblB_of (fits_agg attrT rfl (by simp [allOne])) (And.intro known_sem (mtB_of (fun _ => And.intro hs1 (fin_bool rfl)) (fun e => by simp at e))))))
  refine mtB_of (fun e => And.intro qq (And.intro ⟨⟨HF0, trivial⟩, ?_, trivial⟩ ?_)) (fun c1 => ?_)
  · have h := z1 (beqInt_iff.1 e)
    simp only [It.mk.injEq] at h
    obtain ⟨rfl, rfl, rfl, rfl, rfl, rfl, rfl⟩ := h
    exact frz_cells rfl rfl rfl rfl
  · exact And.intro hrd (oblB_of (fits_agg attrT rfl (by simp [allOne])) (And.intro hrr (oblB_of (fits_agg attrT rfl (by simp [allOne])) (And.intro known_sem (mtB_of (fun _ => And.intro hs1 (fin_bool rfl)) (fun e => by simp at e))))))
  refine mtB_of (fun e => And.intro ⟨⟨HF0, trivial⟩, ?_, trivial⟩ ?_) (fun c2 => ?_)
  · have h := z2 (beqInt_iff.1 e)
    exact cells_frz h
  · exact And.intro hrd (oblB_of (fits_agg attrT rfl (by simp [allOne])) (And.intro hrr (oblB_of (fits_agg attrT rfl (by simp [allOne])) (And.intro known_sem (mtB_of (fun _ => And.intro hs1 (fin_bool rfl)) (fun e => by simp at e))))))
  refine mtB_of (fun e => oblB_of ?_ (And.intro ⟨⟨HF0, trivial⟩, ?_, trivial⟩ ?_)) (fun c3 => ?_)
  · simp [allSize, lenN, AV.cells, flat, allOne]
  · have h := z3 (beqInt_iff.1 e)
    simp only [It.mk.injEq] at h
    obtain ⟨rfl, rfl, rfl, rfl, rfl, rfl, rfl⟩ := h
    exact frz_cells rfl rfl rfl rfl
  · exact And.intro hrd (oblB_of (fits_agg attrT rfl (by simp [allOne])) (And.intro hrr (oblB_of (fits_agg attrT rfl (by simp [allOne])) (And.intro known_sem (mtB_of (fun _ => And.intro hs1 (fin_bool rfl)) (fun e => by simp at e))))))
  refine mtB_of (fun e => oblB_of (fits_agg itemT rfl (by simp [allOne])) (And.intro ⟨⟨HF0, trivial⟩, ?_, trivial⟩ ?_)) (fun c4 => ?_)
  · have h := z4 (beqInt_iff.1 e)
    exact cells_frz h
  · exact And.intro hrd (oblB_of (fits_agg attrT rfl (by simp [allOne])) (And.intro hrr (oblB_of (fits_agg attrT rfl (by simp [allOne])) (And.intro known_sem (mtB_of (fun _ => And.intro hs1 (fin_bool rfl)) (fun e => by simp at e))))))
  refine mtB_of (fun e => And.intro ⟨⟨HF0, trivial⟩, ?_, trivial⟩ ?_) (fun c5 => And.intro ⟨⟨HF0, trivial⟩, ?_, trivial⟩ ?_)
  · have h := z5 (beqInt_iff.1 e)
    exact cells_frz h
  · exact And.intro hrd (oblB_of (fits_agg attrT rfl (by simp [allOne])) (And.intro hrr (oblB_of (fits_agg attrT rfl (by simp [allOne])) (And.intro known_sem (mtB_of (fun _ => And.intro hs1 (fin_bool rfl)) (fun e => by simp at e))))))
  · have h := z6 (beqInt_false.1 c0) (beqInt_false.1 c1) (beqInt_false.1 c2) (beqInt_false.1 c3) (beqInt_false.1 c4) (beqInt_false.1 c5)
    exact cells_frz h
  · exact And.intro hrd (oblB_of (fits_agg attrT rfl (by simp [allOne])) (And.intro hrr (oblB_of (fits_agg attrT rfl (by simp [allOne])) (And.intro known_sem (mtB_of (fun _ => And.intro hs1 (fin_bool rfl)) (fun e => by simp at e))))))

set_option maxRecDepth 20000 in
theorem law_more {r : Rw} {how : Int} {f : Option Bool} {l : List Rw} {s : List UInt8} {i : Int} {v x0 : It} (hv : okI big v) (hs : s.length ≤ big) (hi : beqInt i 0 = false) (ha : SemCall Tryz.prog opts0.glob 16 [rwA r] (atA ⟨s, i, v⟩)) (hx0 : okI big x0) (hx : SemCall Tryz.prog opts0.glob 27 [rwV f l] (itA x0)) :
    SemCall Tryz.prog opts0.glob 7 [rwA r, I how, rwV f l] (.bool true) := by
  have qp := pick_sem how (m := 9) (by decide) (by decide)
  have qq := pick_sem (wrapA .i64 (how.tdiv 9)) (m := 4) (by decide) (by decide)
  generalize how % 9 = p at qp
  generalize wrapA .i64 (how.tdiv 9) % 4 = q at qq
  have hn := ok_name hs
  have hix : ∀ {j : Int}, okI big (idxI j) := by simp [idxI, okI, okIs]
  have hlr := layr_sem (a := ⟨s, i, v⟩)
  have hlp := lay_sem (a := ⟨s, i, v⟩) hv
  have hlI : okI big (layR ⟨s, i, v⟩) := by
    simp only [layR, layKids, hi]
    exact ok_pair (by simp) (by simp only [List.mem_cons, List.not_mem_nil, or_false]; rintro k (rfl | rfl | rfl) <;> first | assumption | exact hix)
  have hlI2 : okI big (layP ⟨s, i, v⟩) := by
    simp only [layP, layKids, hi]
    have := ok_copy v hv
    exact ok_pair (by simp) (by simp only [List.mem_cons, List.not_mem_nil, or_false]; rintro k (rfl | rfl | rfl) <;> first | assumption | exact hix)
  have hsm := same_sem _ _ hlI2 hlI
  have hsr : sameI (layP ⟨s, i, v⟩) (layR ⟨s, i, v⟩) = true := by
    simp only [layP, layR, layKids, hi, sameI, sameIs, sameI_copy, sameI_refl, Bool.and_true]
    rfl
  rw [hsr] at hsm
  obtain ⟨z, hz, z0, z1, z2, z3, z4, z5, z6⟩ := item_turned (p := p) (.mk 4325384 1 0 none [] (some false) [idxI i, v]) (.mk 4325384 1 0 none [] (some false) [nameI s, idxI (wrapA .i64 (q - 1)), idxI i, v]) (.mk 4325450 1 0 none [] (some false) [nameI s, idxI i, v])
    (.mk 4325384 1 0 none [] (some false) [nameI s, idxI i, v, x0]) x0 (.mk 4325384 1 1 none [] (some false) [nameI s, idxI i, v]) (.mk 4325384 1 0 none [] (some false) [nameI s, idxI i, v]) (by
      simp only [List.mem_cons, List.not_mem_nil, or_false]
      rintro z (rfl | rfl | rfl | rfl | rfl | rfl | rfl)
      · exact ok_pair4 (by simp) (by simp only [List.mem_cons, List.not_mem_nil, or_false]; rintro k (rfl | rfl | rfl | rfl) <;> first | assumption | exact hix)
      · exact ok_pair4 (by simp) (by simp only [List.mem_cons, List.not_mem_nil, or_false]; rintro k (rfl | rfl | rfl | rfl) <;> first | assumption | exact hix)
      · exact ok_pair4 (by simp) (by simp only [List.mem_cons, List.not_mem_nil, or_false]; rintro k (rfl | rfl | rfl | rfl) <;> first | assumption | exact hix)
      · exact ok_pair4 (by simp) (by simp only [List.mem_cons, List.not_mem_nil, or_false]; rintro k (rfl | rfl | rfl | rfl) <;> first | assumption | exact hix)
      · exact hx0
      · exact ok_pair4 (by simp) (by simp only [List.mem_cons, List.not_mem_nil, or_false]; rintro k (rfl | rfl | rfl | rfl) <;> first | assumption | exact hix)
      · exact ok_pair4 (by simp) (by simp only [List.mem_cons, List.not_mem_nil, or_false]; rintro k (rfl | rfl | rfl | rfl) <;> first | assumption | exact hix))
  obtain ⟨a, b, ok, ea, eb, hab, oka, okb⟩ := read_both hz
  have hrd := read_sem hz
  have hrr := readr_sem hz
  have hs1 := same1_sem oka okb
  rw [ea] at hrd
  rw [eb] at hrr
  rw [hab] at hs1
  obtain ⟨w, j, u⟩ := a
  obtain ⟨w', j', u'⟩ := b
  obtain ⟨e0, e1, e2, ef, ed, eg, ek⟩ := z
  obtain ⟨u0, u1, u2, uf, ud, ug, uk⟩ := u
  obtain ⟨u0', u1', u2', uf', ud', ug', uk'⟩ := u'
  obtain ⟨t, y, n, df, d, kf, ks⟩ := v
  obtain ⟨x1, x2, x3, xf, xd, xg, xk⟩ := x0
  have hcx := closed_rwV (f := f) (l := l)
  simp only [layR, layP, layKids, hi, copyI_mk] at hlr hlp hsm
  simp only [atA, itC, itA, itAs, rowN, rowS, nameI, idxI, toBytes] at ha hx hlr hlp hsm hrd hrr hs1
  refine fnK_sem (A := liA 12 p q (itA (.mk x1 x2 x3 xf xd xg xk)) (atA ⟨s, i, .mk t y n df d kf ks⟩) (.agg [I 4325384, I 1, I 0, .nilsl, .fsl false [itA (nameI s), itA (idxI i), itA (.mk t y n df d kf ks)]]) (.agg [I 4325384, I 1, I 0, .nilsl, .fsl false [itA (nameI s), itA (idxI i), itA (.mk t y n (copyDF df d) d (copyKF ks) (copyIs ks))]])
    (.tuple [atA ⟨w, j, .mk u0 u1 u2 uf ud ug uk⟩, .bool ok]) (.tuple [atA ⟨w', j', .mk u0' u1' u2' uf' ud' ug' uk'⟩, .bool ok]) (itC (.mk e0 e1 e2 ef ed eg ek)) true) base0 (aidC_ok aidJ_ok) (fnLs_of (LsOk.no rfl)) (by simp [closedAll, closedA, rwA, rwC, hcx]) ?_
  simp only [atA, itC]
  have HF0 : ∀ {H : Heap}, Frz 13 H (.ptr 12 0) (.ptr 12 0) := Frz.keepP rfl
  refine Eq.mpr (li3 r how p q (rwV f l) s i t y n x1 x2 x3 e0 e1 e2 (rowV df (toBytes d)) (rowV kf (itAs ks)) (rowV (copyDF df d) (toBytes d)) (rowV (copyKF ks) (itAs (copyIs ks))) (rowV xf (toBytes xd)) (rowV xg (itAs xk)) (rowV ef (toBytes ed)) (rowV eg (itAs ek)) w w' j j' u0 u1 u2 u0' u1' u2' (rowV uf (toBytes ud)) (rowV ug (itAs uk)) (rowV uf' (toBytes ud')) (rowV ug' (itAs uk')) ok ok true _) ?_
  refine And.intro hx (oblB_of (fits_agg itemT rfl (by simp [allOne])) (And.intro ha (oblB_of (fits_agg attrT rfl (by simp [allOne])) (And.intro hlr (And.intro hlp (And.intro hsm (And.intro qp ?_)))))))
  refine mtB_of (fun e => And.intro ⟨⟨HF0, trivial⟩, ?_, trivial⟩ ?_) (fun c0 => ?_)
  · have h := z0 (beqInt_iff.1 e)
    simp only [It.mk.injEq] at h
    obtain ⟨rfl, rfl, rfl, rfl, rfl, rfl, rfl⟩ := h
    exact frz_cells rfl rfl rfl rfl
  · exact And.intro hrd (oblB_of (fits_agg attrT rfl (by simp [allOne])) (And.intro hrr (oblB_of (fits_agg attrT rfl (by simp [allOne])) (And.intro known_sem (mtB_of (fun _ => And.intro hs1 (fin_bool rfl)) (fun e => by simp at e))))))
  refine mtB_of (fun e => And.intro qq (And.intro ⟨⟨HF0, trivial⟩, ?_, trivial⟩ ?_)) (fun c1 => ?_)
  · have h := z1 (beqInt_iff.1 e)
    simp only [It.mk.injEq] at h
    obtain ⟨rfl, rfl, rfl, rfl, rfl, rfl, rfl⟩ := h
    exact frz_cells rfl rfl rfl rfl
  · exact And.intro hrd (oblB_of (fits_agg attrT rfl (by simp [allOne])) (And.intro hrr (oblB_of (fits_agg attrT rfl (by simp [allOne])) (And.intro known_sem (mtB_of (fun _ => And.intro hs1 (fin_bool rfl)) (fun e => by simp at e))))))
  refine mtB_of (fun e => And.intro ⟨⟨HF0, trivial⟩, ?_, trivial⟩ ?_) (fun c2 => ?_)
  · have h := z2 (beqInt_iff.1 e)
    exact cells_frz h
  · exact And.intro hrd (oblB_of (fits_agg attrT rfl (by simp [allOne])) (And.intro hrr (oblB_of (fits_agg attrT rfl (by simp [allOne])) (And.intro known_sem (mtB_of (fun _ => And.intro hs1 (fin_bool rfl)) (fun e => by simp at e))))))
  refine mtB_of (fun e => oblB_of ?_ (And.intro ⟨⟨HF0, trivial⟩, ?_, trivial⟩ ?_)) (fun c3 => ?_)
  · simp [allSize, lenN, AV.cells, flat, allOne]
  · have h := z3 (beqInt_iff.1 e)
    simp only [It.mk.injEq] at h
    obtain ⟨rfl, rfl, rfl, rfl, rfl, rfl, rfl⟩ := h
    exact frz_cells rfl rfl rfl rfl
  · exact And.intro hrd (oblB_of (fits_agg attrT rfl (by simp [allOne])) (And.intro hrr (oblB_of (fits_agg attrT rfl (by simp [allOne])) (And.intro known_sem (mtB_of (fun _ => And.intro hs1 (fin_bool rfl)) (fun e => by simp at e))))))
  refine mtB_of (fun e => oblB_of (fits_agg itemT rfl (by simp [allOne])) (And.intro ⟨⟨HF0, trivial⟩, ?_, trivial⟩ ?_)) (fun c4 => ?_)
  · have h := z4 (beqInt_iff.1 e)
    exact cells_frz h
  · exact And.intro hrd (oblB_of (fits_agg attrT rfl (by simp [allOne])) (And.intro hrr (oblB_of (fits_agg attrT rfl (by simp [allOne])) (And.intro known_sem (mtB_of (fun _ => And.intro hs1 (fin_bool rfl)) (fun e => by simp at e))))))
  refine mtB_of (fun e => And.intro ⟨⟨HF0, trivial⟩, ?_, trivial⟩ ?_) (fun c5 => And.intro ⟨⟨HF0, trivial⟩, ?_, trivial⟩ ?_)
  · have h := z5 (beqInt_iff.1 e)
    exact cells_frz h
  · exact And.intro hrd (oblB_of (fits_agg attrT rfl (by simp [allOne])) (And.intro hrr (oblB_of (fits_agg attrT rfl (by simp [allOne])) (And.intro known_sem (mtB_of (fun _ => And.intro hs1 (fin_bool rfl)) (fun e => by simp at e))))))
  · have h := z6 (beqInt_false.1 c0) (beqInt_false.1 c1) (beqInt_false.1 c2) (beqInt_false.1 c3) (beqInt_false.1 c4) (beqInt_false.1 c5)
    exact cells_frz h
  · exact And.intro hrd (oblB_of (fits_agg attrT rfl (by simp [allOne])) (And.intro hrr (oblB_of (fits_agg attrT rfl (by simp [allOne])) (And.intro known_sem (mtB_of (fun _ => And.intro hs1 (fin_bool rfl)) (fun e => by simp at e))))))

theorem law_sem (r : Rw) (how : Int) {f : Option Bool} {l : List Rw} (hf : f = none → l = []) (hl : l.length ≤ 9223372036854775807) : SemCall Tryz.prog opts0.glob 7 [rwA r, I how, rwV f l] (.bool true) := by
  obtain ⟨a, h1, h2, h3⟩ := attr_ex r
  obtain ⟨x, h4, h5⟩ := hitem_ex hf hl
  cases hi : beqInt a.idx 0 with
  | true => exact law_zero (i := a.idx) (s := a.name) (v := a.v) h1 h2 hi h3 h4 h5
  | false => exact law_more (i := a.idx) (s := a.name) (v := a.v) h1 h2 hi h3 h4 h5

end Go.Proofs.YtjhggnebkfpgcaaGreatDoor
