/- What plan.CheckCut returns: whether a cutting shows that it is right. A text of the prover's own. -/
import Derived.Test.YtlkaaaoeemejoaaGreatDoorQCa
namespace Go.Cu
open Go Go.Sv Go.Pl Go.Proofs Go.Tb
/-- how many of each size are cut, while the k-th pattern is counted -/
def gots (sz : List Sz) (c : Cut) (k i : Nat) : List Rat := (List.range sz.length).map fun j => got c j (if j < i then k + 1 else k)
@[simp] theorem gots_len (sz : List Sz) (c : Cut) (k i : Nat) : (gots sz c k i).length = sz.length := by simp [gots]
theorem gt_gots {sz : List Sz} {c : Cut} {k i j : Nat} (h : j < sz.length) : gt (gots sz c k i) j = got c j (if j < i then k + 1 else k) := by simp [gt, gots, h]
theorem gots_next {sz : List Sz} {c : Cut} {k : Nat} : gots sz c k sz.length = gots sz c (k + 1) 0 := by
  refine ext_gt' (by simp) fun j hj => ?_
  simp only [gots_len] at hj
  rw [gt_gots hj, gt_gots hj]; simp [hj]
theorem gots_set {sz : List Sz} {c : Cut} {k j : Nat} : (gots sz c k j).set j (got c j (k + 1)) = gots sz c k (j + 1) := by
  refine List.ext_getElem (by simp) fun n h1 h2 => ?_
  simp only [gots_len] at h2
  rw [List.getElem_set]
  simp only [gots, List.getElem_map, List.getElem_range]
  by_cases e : j = n
  · subst e; simp
  · by_cases g : n < j
    · simp [e, g, show n < j + 1 by omega]
    · simp [e, g, show ¬ n < j + 1 by omega]
theorem gots_zero {sz : List Sz} {c : Cut} : gots sz c 0 0 = List.replicate sz.length 0 := by
  simp [gots, got, List.map_const']
theorem rep_rsv {n : Nat} : List.replicate n (rsv 0) = (List.replicate n (0 : Rat)).map rsv := by rw [List.map_replicate]
theorem qw_got' {R : Nat} {sz : List Sz} {c : Cut} (hs : Stk R sz) (hc : CutS c) (hl : c.times.length = c.pats.length) {k : Nat}
    (hb : ∀ k', k' < k → ¬ ng (gt c.times k') ∧ (gt c.pats k').length = sz.length ∧ patB R sz (gt c.pats k') = true) {i : Nat} (hi : i < sz.length) : ∀ m, m ≤ c.pats.length → m ≤ k → qw (1 + 2202 * m) (got c i m)
  | 0, _, _ => qw_zero _ (by omega)
  | m + 1, h, h' => by
    obtain ⟨-, b2, b3⟩ := hb m (by omega)
    obtain ⟨p1, p2⟩ := pat_bnd hs b3 b2 i hi
    have r2 := hs.r2
    exact qw_mono (qw_add (qw_got' hs hc hl hb hi m (by omega) (by omega)) (qw_mul (hc.wt m (by omega)) (qw_nat p1 (by omega)) (by omega))) (by omega)
end Go.Cu
namespace Go.Proofs
open Go.Sv Go Go.Tb Go.Pl Go.Cu
theorem checkCutE_ok (roll : Int) (sz : List Sz) (c : Cut) (hl : sz.length ≤ 1048576) (h : stockC roll sz ≠ 0) : PureF Tryz.prog 12 [iv roll, .ro (sz.map sizeV), .rop (cutQ c) 0] (.tup [.val (.bool false), erV (stockC roll sz)]) := by
  have g := vStock_ok roll sz hl
  refine pure_enter Tryz.func12 rfl (by simp) (fun C hC => ?_)
  simp
  refine callS g (by simp) ?_
  rcases stockC_le roll sz with e | e | e
  · exact absurd e h
  · rw [e, erV_2]; simp
  · rw [e, erV_4]; simp
set_option maxRecDepth 10000 in
theorem checkCut_ok (R : Nat) (sz : List Sz) (h0 : stockC R sz = 0) (c : Cut) (hc : CutS c) : PureF Tryz.prog 12 [iv R, .ro (sz.map sizeV), .rop (cutQ c) 0] (.tup [.val (.bool (cutB R sz c)), .val .nilIface]) := by
  have hs := stk_of h0
  have n1 := hs.n
  have r2 := hs.r2
  have m1 := hc.np
  have m2 := hc.nt
  have m3 := hc.nw
  have g := vStock_ok R sz (by omega)
  rw [h0, erV_0] at g
  refine pure_enter Tryz.func12 rfl (by simp) (fun C hC => ?_)
  simp
  refine callS g (by simp) ?_
  simp
  refine CodeJ.draw (.qs [0, 1, 2, 3, 4, 5, 6, 7, 8, 9, 10, 11, 12, 13, 14, 15, 16, 17, 18, 19, 20] <| .nil) (by kernel_rfl) (by kernel_rfl) (by simp) ?_
  simp
  by_cases ha : c.times.length = c.pats.length ∧ c.worth.length = sz.length
  · obtain ⟨a1, a2⟩ := ha
    simp [a1, a2]
    refine ⟨by omega, ?_⟩
    refine CodeJ.le (Le.nl _) ?_
    simp [nlS, nlL_rep]
    refine CodeJ.loopL (ι := Nat) (fun k => ⟨212, [(0, iv R), (1, .ro (sz.map sizeV)), (2, .rop (cutQ c) 0), (9, .view 0 0 sz.length), (10, .ptr 1 0 0), (11, .ptr 2 0 0), (58, .ro (c.pats.map ilv)), (59, iv c.pats.length), (60, iv k)], [some ⟨4, (gots sz c k 0).map rsv, false⟩, some ⟨4, [rsv (tsum c k)], false⟩, some ⟨4, [rsv 0], false⟩]⟩)
      (fun k => k ≤ c.pats.length ∧ ∀ k', k' < k → ¬ ng (gt c.times k') ∧ (gt c.pats k').length = sz.length ∧ patB R sz (gt c.pats k') = true) (fun k => c.pats.length - k) 0 ?_ ?_ ?_
    · simp
    · simp [leS, hC, tsum, gots_zero]
      first | exact .inr rfl | exact ⟨.inr rfl, rfl⟩
    · rintro k ⟨hk, hb⟩
      by_cases hkt : k < c.pats.length
      · have q1 := hc.wt k (by omega)
        have q2 := qw_tsum hc.wt a1 k hk
        have g1 := qSign_ok (gt c.times k)
        have i2 : ng (gt c.times k) ↔ (gt c.times k).num.sign < 0 := Iff.rfl
        generalize (gt c.times k).num.sign = u at g1 i2
        have hnl := hc.nl k hkt
        simp (disch := omega) [hkt, lget_r, lget_ilv]
        by_cases hpl : (gt c.pats k).length = sz.length
        · simp [hpl]
          refine ⟨by omega, callS g1 (by simp) ?_⟩
          by_cases hu : u < 0
          · have hno : cutB R sz c = false := cutB_no (fun h => (h.cb k hkt).1 (i2.2 hu))
            simp [hu, hno]
          · have hu' : 0 ≤ u := by omega
            simp [hu, hu']
            have hpt : ∀ i, i < sz.length → (gt c.pats k).length = sz.length := fun _ _ => hpl
            refine CodeJ.loopL (ι := Nat × Int) (fun ⟨i, lf⟩ => ⟨212, [(0, iv R), (1, .ro (sz.map sizeV)), (2, .rop (cutQ c) 0), (9, .view 0 0 sz.length), (10, .ptr 1 0 0), (11, .ptr 2 0 0), (12, iv k), (14, iv lf), (58, .ro (c.pats.map ilv)), (59, iv c.pats.length), (60, iv k), (82, .ro ((gt c.pats k).map iv)), (83, iv sz.length), (84, iv i)],
                [some ⟨4, (gots sz c k i).map rsv, false⟩, some ⟨4, [rsv (tsum c k)], false⟩, some ⟨4, [rsv 0], false⟩]⟩)
              (fun ⟨i, lf⟩ => i ≤ sz.length ∧ 0 ≤ lf ∧ lf ≤ R ∧ patB lf (sz.drop i) ((gt c.pats k).drop i) = patB R sz (gt c.pats k) ∧ ∀ j, j < sz.length → qw (1 + 2202 * k) (got c j k)) (fun ⟨i, lf⟩ => sz.length - i) (0, R) ?_ ?_ ?_
            · exact ⟨by omega, by omega, by omega, rfl, fun j hj => qw_got' hs hc a1 hb hj k (by omega) (Nat.le_refl _)⟩
            · simp [leS, hC, hpl]
            · rintro ⟨i, lf⟩ ⟨hi, hf0, hf1, hpa, hqg⟩
              by_cases hit : i < sz.length
              · have hip : i < (gt c.pats k).length := by omega
                have s1 := (hs.s i hit).1
                obtain ⟨d0, d1⟩ := tdiv_in hf0 s1
                rw [patB_at hit hip] at hpa
                simp (disch := omega) [hit, lget_sz, lget_iv, w64]
                refine ⟨by omega, fun c1 => ⟨by omega, fun c2 => ?_, fun c2 => ?_⟩, fun c1 => ?_⟩
                · rw [if_pos (by omega)] at hpa
                  exact cutB_no (fun h => by have := (h.cb k hkt).2.2; rw [← hpa] at this; cases this)
                · rw [if_neg (by omega)] at hpa
                  obtain ⟨l1, l2⟩ := left_le hf0 s1 c1 c2
                  have q3 : qw 1 ((gt (gt c.pats k) i : Int) : Rat) := qw_nat c1 (by omega)
                  have q4 := qw_mul q1 q3 (by omega)
                  have q5 := hqg i hit
                  have e2 : lget ((gots sz c k i).map rsv) i = rsv (got c i k) := by rw [lget_r (by simpa using hit), gt_gots hit]; simp
                  simp (disch := omega) [hit, lget_sz, w64]
                  refine CodeJ.draw (.qs [0, 1, 2, 3, 4, 5, 6, 7, 8, 9, 10, 11, 12, 13] <| .l 14 [] <| .l 15 [] <| .l 16 [] <| .qs [17] <| .l 18 [0] <| .nil) (by kernel_rfl) (by kernel_rfl) (by simp) ?_
                  simp (disch := omega) [hit, hkt, lget_r, e2]
                  refine ⟨by omega, callS (qInt_ok _ (by omega) (by omega)) (by simp) ?_⟩
                  simp
                  refine callS (qMul_ok _ _ (qok_of q1 (by omega)) (qok_of q3 (by omega))) (by simp) ?_
                  simp
                  refine callS (qAdd_ok _ _ (qok_of q5 (by omega)) (qok_of q4 (by omega))) (by simp) ?_
                  rw [show got c i k + gt c.times k * ((gt (gt c.pats k) i : Int) : Rat) = got c i (k + 1) from rfl]
                  simp (disch := omega) [w64, lset_eq, e2, rsv_set, gots_set, -List.map_set]
                  exact ⟨hit, i + 1, lf - gt (gt c.pats k) i * (gt sz i).1, ⟨by omega, by omega, by omega, hpa, hqg⟩, by omega, Le.syn (by simp (disch := omega) [leS, hC, w64])⟩
                · rw [if_pos (by omega)] at hpa
                  exact cutB_no (fun h => by have := (h.cb k hkt).2.2; rw [← hpa] at this; cases this)
              · obtain rfl : i = sz.length := by omega
                simp
                have hp3 : patB R sz (gt c.pats k) = true := by rw [← hpa]; exact patB_end (by omega)
                refine CodeJ.draw (.qs [0, 1, 2, 3, 4, 5, 6, 7] <| .l 8 [] <| .l 9 [1] <| .nil) (by kernel_rfl) (by kernel_rfl) (by simp) ?_
                simp (disch := omega) [lget_r]
                refine ⟨by omega, callS (qAdd_ok _ _ (qok_of q2 (by omega)) (qok_of q1 (by omega))) (by simp) ?_⟩
                simp (disch := omega) [w64]
                exact ⟨k + 1, ⟨by omega, step_lt hb ⟨fun h => hu (i2.1 h), hpl, hp3⟩⟩, by omega, Le.syn (by simp (disch := omega) [leS, hC, w64, tsum, gots_next])⟩
        · have hno : cutB R sz c = false := cutB_no (fun h => hpl (h.cb k hkt).2.1)
          simp [hno]
          exact fun h => absurd (by omega) hpl
      · obtain rfl : k = c.pats.length := by omega
        simp
        refine CodeJ.loopL (ι := Nat) (fun i => ⟨212, [(0, iv R), (1, .ro (sz.map sizeV)), (2, .rop (cutQ c) 0), (9, .view 0 0 sz.length), (10, .ptr 1 0 0), (11, .ptr 2 0 0), (140, .ro (sz.map sizeV)), (141, iv sz.length), (142, iv i)], [some ⟨4, (gots sz c c.pats.length 0).map rsv, false⟩, some ⟨4, [rsv (tsum c c.pats.length)], false⟩, some ⟨4, [rsv (wsum sz c i)], false⟩]⟩)
          (fun i => i ≤ sz.length ∧ ∀ i', i' < i → ¬ got c i' c.pats.length < ((gt sz i').2 : Rat) ∧ ¬ ng (gt c.worth i')) (fun i => sz.length - i) 0 ?_ ?_ ?_
        · simp
        · simp [leS, hC, wsum]
        · rintro i ⟨hi, hcc⟩
          by_cases hit : i < sz.length
          · have q1 := hc.ww i (by omega)
            have q2 := qw_got hs hc a1 hb hit _ (Nat.le_refl _)
            obtain ⟨-, -, z1, z2⟩ := hs.s i hit
            have q3 : qw 1 (((gt sz i).2 : Int) : Rat) := qw_nat z1 (by omega)
            have q4 := qw_mul q3 q1 (by omega)
            have q5 := qw_wsum hs hc a2 i hi
            have g1 := qCmp_ok (got c i c.pats.length) (((gt sz i).2 : Int) : Rat) (qok_of q2 (by omega)) (qok_of q3 (by omega))
            have g2 := qSign_ok (gt c.worth i)
            have i1 := cmp_lt0 (x := got c i c.pats.length) (y := (((gt sz i).2 : Int) : Rat))
            generalize (if got c i c.pats.length < (((gt sz i).2 : Int) : Rat) then (-1 : Int) else if (((gt sz i).2 : Int) : Rat) < got c i c.pats.length then 1 else 0) = v at g1 i1
            have i2 : ng (gt c.worth i) ↔ (gt c.worth i).num.sign < 0 := Iff.rfl
            generalize (gt c.worth i).num.sign = u at g2 i2
            have e2 : lget ((gots sz c c.pats.length 0).map rsv) i = rsv (got c i c.pats.length) := by rw [lget_r (by simpa using hit), gt_gots hit]; simp
            simp (disch := omega) [hit, lget_sz]
            refine callS (qInt_ok _ (by omega) (by omega)) (by simp) ?_
            simp
            refine CodeJ.draw (.qs [0, 1, 2, 3, 4] <| .l 5 [] <| .qs [6, 7, 8, 9, 10, 11, 12, 13, 14] <| .l 15 [] <| .qs [16, 17] <| .nil) (by kernel_rfl) (by kernel_rfl) (by simp) ?_
            simp (disch := omega) [hit, e2]
            refine callS g1 (by simp) ?_
            by_cases hv : v < 0
            · have hno : cutB R sz c = false := cutB_no (fun h => (h.cc i hit).1 (i1.1 hv))
              simp [hv, hno]
            · have hv' : 0 ≤ v := by omega
              simp (disch := omega) [hv, hv', lget_r, a2]
              refine ⟨by omega, callS g2 (by simp) ?_⟩
              by_cases hu : u < 0
              · have hno : cutB R sz c = false := cutB_no (fun h => (h.cc i hit).2 (i2.2 hu))
                simp [hu, hno]
              · have hu' : 0 ≤ u := by omega
                simp [hu, hu']
                refine CodeJ.draw (.qs [0, 1, 2, 3, 4, 5, 6, 7, 8] <| .l 9 [] <| .l 10 [] <| .l 11 [2] <| .nil) (by kernel_rfl) (by kernel_rfl) (by simp) ?_
                simp (disch := omega) [hit, lget_r, a2]
                refine callS (qMul_ok _ _ (qok_of q3 (by omega)) (qok_of q1 (by omega))) (by simp) ?_
                simp
                refine callS (qAdd_ok _ _ (qok_of q5 (by omega)) (qok_of q4 (by omega))) (by simp) ?_
                simp (disch := omega) [w64]
                exact ⟨i + 1, ⟨by omega, step_lt hcc ⟨fun h => hv (i1.2 h), fun h => hu (i2.1 h)⟩⟩, by omega, Le.syn (by simp (disch := omega) [leS, hC, w64, wsum, Rat.mul_comm])⟩
          · obtain rfl : i = sz.length := by omega
            simp
            have q1 := qw_tsum hc.wt a1 _ (Nat.le_refl _)
            have q2 := qw_wsum hs hc a2 _ (Nat.le_refl _)
            have q3 := qw_inn hs hc.ww a2 R sz.length (Nat.le_refl _)
            have g1 := qCmp_ok (tsum c c.pats.length) c.rolls (qok_of q1 (by omega)) (qok_of hc.wr (by omega))
            have g2 := qCmp_ok (wsum sz c sz.length) c.rolls (qok_of q2 (by omega)) (qok_of hc.wr (by omega))
            have g3 := qRichest_ok R sz hs c.worth hc.ww a2
            have g4 := qCmp_ok (rich sz c.worth R) ((1 : Int) : Rat) (qok_of q3 (by omega)) (qok_of (qw_nat (by omega) (by omega)) (by omega))
            have i1 := cmp_zero (x := tsum c c.pats.length) (y := c.rolls)
            have i2 := cmp_zero (x := wsum sz c sz.length) (y := c.rolls)
            have i4 := cmp_le0 (x := rich sz c.worth R) (y := ((1 : Int) : Rat))
            generalize (if tsum c c.pats.length < c.rolls then (-1 : Int) else if c.rolls < tsum c c.pats.length then 1 else 0) = v1 at g1 i1
            generalize (if wsum sz c sz.length < c.rolls then (-1 : Int) else if c.rolls < wsum sz c sz.length then 1 else 0) = v2 at g2 i2
            generalize (if rich sz c.worth R < ((1 : Int) : Rat) then (-1 : Int) else if ((1 : Int) : Rat) < rich sz c.worth R then 1 else 0) = v4 at g4 i4
            have hcut : cutB R sz c = (decide (v4 ≤ 0) && decide (v1 = 0) && decide (v2 = 0)) := by
              by_cases hall : v1 = 0 ∧ v2 = 0 ∧ v4 ≤ 0
              · obtain ⟨e1, e2, e4⟩ := hall
                rw [cutB_yes ⟨⟨a1, a2⟩, hb, hcc, i4.1 e4, i1.1 e1, i2.1 e2⟩]; simp [e1, e2, e4]
              · rw [cutB_no (fun h => hall ⟨i1.2 h.ce, i2.2 h.cf, i4.2 h.cd⟩)]
                by_cases e1 : v1 = 0
                · by_cases e2 : v2 = 0
                  · have : ¬ v4 ≤ 0 := fun e => hall ⟨e1, e2, e⟩
                    simp [e1, e2]; omega
                  · simp [e2]
                · simp [e1]
            rw [hcut]
            refine callP g3 (by simp) ?_
            rintro x ⟨zs, rfl⟩
            simp
            refine CodeJ.draw (.qs [0] <| .l 1 [] <| .l 2 [] <| .qs [3, 4, 5, 6, 7, 8, 9] <| .l 10 [] <| .qs [11, 12, 13, 14, 15, 16, 17, 18] <| .l 19 [] <| .qs [20, 21, 22, 23] <| .nil) (by kernel_rfl) (by kernel_rfl) (by simp) ?_
            simp
            refine callS (qInt_ok 1 (by omega) (by omega)) (by simp) ?_
            simp
            refine callS g4 (by simp) ?_
            by_cases e4 : v4 ≤ 0
            · simp [e4]
              refine callS g1 (by simp) ?_
              by_cases e1 : v1 = 0
              · simp [e1]
                refine callS g2 (by simp) ?_
                simp
              · simp [e1]
            · have e4' : 0 < v4 := by omega
              simp [e4, e4']
  · have hno : cutB R sz c = false := cutB_no (fun h => ha h.ca)
    simp [hno]
    exact fun h1 h2 => absurd ⟨by omega, by omega⟩ ha
end Go.Proofs

