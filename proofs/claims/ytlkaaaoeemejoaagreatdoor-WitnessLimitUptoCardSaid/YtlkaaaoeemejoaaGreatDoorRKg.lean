/- What is wrong with a problem: the program's answer. A text of the prover's own. -/
import Derived.Test.YtlkaaaoeemejoaaGreatDoorRKf
namespace Go.Proofs
open Go.Sv Go Go.Tb Go.Pl Go.Ut Go.Li
theorem lget_terms {r : Row} {k : Nat} (h : k < r.terms.length) : lget (r.terms.map termQ) k = termQ (gt r.terms k) := lget_m termQ h
theorem entV_eq {s : ByteArray} {n : Nat} : SV.tup [.val (.string s), .val (.int .i64 (n : Nat))] = entV (s, n) := rfl
set_option maxRecDepth 10000 in
theorem qValid_ok (p : Prob) (h : Few p) : PureF Tryz.prog 61 [.rop (probQ p) 0] (erV (validC p)) := by
  have nc := h.nc
  have nr := h.nr
  have lc := colN_len p
  have lr := rowN_len p
  refine pure_enter Tryz.func61 rfl (by simp) (fun C hC => ?_)
  simp
  repeat' (apply And.intro <;> intro _)
  · rw [valid_2 (p := p) (.inr (by omega)), erV_2]
  · have h2 : ¬ (120 < p.cols.length ∨ 120 < p.rows.length) := by omega
    refine CodeJ.loopL (ι := Nat) (fun i => ⟨134, [(0, .rop (probQ p) 0), (3, .mp 0), (4, .mp 1), (37, .ro (p.cols.map colQ)), (38, iv p.cols.length), (39, iv i)], [some ⟨0, (cm (colN p) i).map entV, false⟩, some ⟨0, [], false⟩]⟩)
      (fun i => i ≤ p.cols.length) (fun i => p.cols.length - i) 0 (by simp) ?_ ?_
    · simp [leS, hC, cm]
    · rintro i hi
      by_cases hlt : i < p.cols.length
      · obtain ⟨f1, f2, f3, f4, f5⟩ := cm_facts (l := colN p) i (by omega)
        have g := f2 (gt p.cols i).name
        rcases hq : cIdx (gt p.cols i).name (cm (colN p) i) with _ | j
        · simp (disch := omega) [hlt, lget_colQ, kf_none hq]
          repeat (refine And.intro (by omega) ?_)
          exact ⟨i + 1, by omega, by omega, Le.syn (by simp (disch := omega) [leS, hC, w64, cm_none (gt_colN hlt) hq])⟩
        · simp (disch := omega) [hlt, lget_colQ, kf_some hq]
          repeat (refine And.intro (by omega) ?_)
          exact ⟨i + 1, by omega, by omega, Le.syn (by simp (disch := omega) [leS, hC, w64, cm_some (gt_colN hlt) hq])⟩
      · obtain rfl : i = p.cols.length := by omega
        simp
        repeat (refine And.intro (by omega) ?_)
        refine CodeJ.loopL (ι := Nat) (fun i => ⟨134, [(0, .rop (probQ p) 0), (3, .mp 0), (4, .mp 1), (52, .ro (p.rows.map rowQ)), (53, iv p.rows.length), (54, iv i)], [some ⟨0, (cm (colN p) p.cols.length).map entV, false⟩, some ⟨0, (cm (rowN p) i).map entV, false⟩]⟩)
          (fun i => i ≤ p.rows.length) (fun i => p.rows.length - i) 0 (by simp) ?_ ?_
        · simp [leS, hC, cm]
        · rintro i hi
          by_cases hlt : i < p.rows.length
          · obtain ⟨f1, f2, f3, f4, f5⟩ := cm_facts (l := rowN p) i (by omega)
            have g := f2 (gt p.rows i).name
            rcases hq : cIdx (gt p.rows i).name (cm (rowN p) i) with _ | j
            · simp (disch := omega) [hlt, lget_rowQ, kf_none hq]
              repeat (refine And.intro (by omega) ?_)
              exact ⟨i + 1, by omega, by omega, Le.syn (by simp (disch := omega) [leS, hC, w64, cm_none (gt_rowN hlt) hq])⟩
            · simp (disch := omega) [hlt, lget_rowQ, kf_some hq]
              repeat (refine And.intro (by omega) ?_)
              exact ⟨i + 1, by omega, by omega, Le.syn (by simp (disch := omega) [leS, hC, w64, cm_some (gt_rowN hlt) hq])⟩
          · obtain rfl : i = p.rows.length := by omega
            have bc := badN_cm (l := colN p)
            have br := badN_cm (l := rowN p)
            rw [lc] at bc
            rw [lr] at br
            have v7 : badN (colN p) = true ∨ badN (rowN p) = true → erV (validC p) = .sen sent 2 := fun h7 => by rw [valid_7 h2 h7, erV_7]
            simp
            repeat (refine And.intro (by omega) ?_)
            refine CodeJ.draw (.qs [0, 2, 3, 4, 5, 6] <| .l 1 [] <| .qs [7, 8, 9, 11, 12, 13, 14, 15] <| .l 10 [] <| .qs [16, 17, 18, 19] <| .l 20 [] <| .qs [21, 22, 23, 24] <| .l 25 [] <| .qs [26, 27] <| .nil) (by kernel_rfl) (by kernel_rfl) (by simp) ?_
            simp [lkR_ent]
            refine ⟨fun q1 => ⟨fun q2 => ⟨fun q3 => ⟨fun q4 => v7 (.inr (by rw [← br]; simp [e0, q4])), fun q4 => ?_⟩, fun q3 => v7 (.inl (by rw [← bc]; simp [e0, q3]))⟩, fun q2 => v7 (.inr (by rw [← br]; simp [q2]))⟩, fun q1 => v7 (.inl (by rw [← bc]; simp [q1]))⟩
            have hbc : badN (colN p) = false := by rw [← bc]; simp [e0, q3]; omega
            have hbr : badN (rowN p) = false := by rw [← br]; simp [e0, q4]; omega
            refine CodeJ.loopL (ι := Nat) (fun i => ⟨134, [(0, .rop (probQ p) 0), (96, .ro (p.rows.map rowQ)), (97, iv p.rows.length), (98, iv i)], []⟩)
              (fun i => i ≤ p.rows.length ∧ ∀ i', i' < i → badT p.cols.length (-1) (gt p.rows i').terms = false) (fun i => p.rows.length - i) 0 (by simp) ?_ ?_
            · simp [leS, hC]
            · rintro i ⟨hi, hb⟩
              by_cases hlt : i < p.rows.length
              · have nt := h.nt i hlt
                simp (disch := omega) [hlt, lget_rowQ]
                repeat (refine And.intro (by omega) ?_)
                refine CodeJ.loopL (ι := Nat × Int) (fun ⟨k, c⟩ => ⟨134, [(0, .rop (probQ p) 0), (96, .ro (p.rows.map rowQ)), (97, iv p.rows.length), (98, iv i), (11, iv c), (103, .ro ((gt p.rows i).terms.map termQ)), (104, iv (gt p.rows i).terms.length), (105, iv k)], []⟩)
                  (fun ⟨k, c⟩ => k ≤ (gt p.rows i).terms.length ∧ badT p.cols.length c ((gt p.rows i).terms.drop k) = badT p.cols.length (-1) (gt p.rows i).terms) (fun ⟨k, c⟩ => (gt p.rows i).terms.length - k) (0, -1) (by simp) ?_ ?_
                · simp [leS, hC]
                · rintro ⟨k, c⟩ ⟨hk, hc⟩
                  by_cases hkl : k < (gt p.rows i).terms.length
                  · rw [badT_drop hkl] at hc
                    simp (disch := omega) [hkl, lget_terms]
                    repeat (refine And.intro (by omega) ?_)
                    refine CodeJ.draw (.qs [0, 1, 2, 3, 4, 5, 6, 7, 8, 9, 10, 11, 12, 13, 14, 15, 16] <| .l 17 [] <| .qs [18, 19] <| .nil) (by kernel_rfl) (by kernel_rfl) (by simp) ?_
                    simp (disch := omega) [hkl, lget_terms]
                    repeat (refine And.intro (by omega) ?_)
                    have v4 : badT p.cols.length (-1) (gt p.rows i).terms = true → erV (validC p) = .sen sent 0 := fun e => by rw [valid_4 h2 hbc hbr (badR_at hlt e), erV_4]
                    refine ⟨fun q1 => ⟨fun q2 => ?_, fun q2 => v4 (by rw [← hc]; simp [q2])⟩, fun q1 => v4 (by rw [← hc]; simp [q1])⟩
                    refine callS (sgnQ (gt (gt p.rows i).terms k).num) (by simp) ?_
                    simp (disch := omega) [w64]
                    repeat (refine And.intro (by omega) ?_)
                    refine ⟨fun q3 => v4 (by rw [← hc]; simp [q3]), fun q3 => ?_⟩
                    refine ⟨k + 1, (gt (gt p.rows i).terms k).col, ⟨by omega, ?_⟩, by omega, Le.syn (by simp (disch := omega) [leS, hC, w64])⟩
                    rw [← hc]
                    simp [q3, show ¬ (gt (gt p.rows i).terms k).col ≤ c by omega, show ¬ (p.cols.length : Int) ≤ (gt (gt p.rows i).terms k).col by omega]
                  · obtain rfl : k = (gt p.rows i).terms.length := by omega
                    rw [List.drop_length] at hc
                    simp (disch := omega) [w64]
                    repeat (refine And.intro (by omega) ?_)
                    refine ⟨i + 1, ⟨by omega, fun i' hi' => ?_⟩, by omega, Le.syn (by simp (disch := omega) [leS, hC, w64])⟩
                    rcases Nat.lt_or_ge i' i with h' | h'
                    · exact hb i' h'
                    · obtain rfl : i' = i := by omega
                      exact hc.symm
              · obtain rfl : i = p.rows.length := by omega
                simp [valid_0 h2 hbc hbr (badR_no hb), erV_0]
  · rw [valid_2 (p := p) (.inl (by omega)), erV_2]
end Go.Proofs

