/- What is wrong with a problem: the document's answer. A text of the prover's own. -/
import Derived.Test.YtlkaaaoeemejoaaGreatDoorRKe
namespace Go.Proofs
open Go.Sv Go Go.Tb Go.Pl Go.Ut Go.Li
/-- there are not many of anything -/
structure Few (p : Prob) : Prop where
  nc : p.cols.length ≤ 1048576
  nr : p.rows.length ≤ 1048576
  nt : ∀ i, i < p.rows.length → (gt p.rows i).terms.length ≤ 1048576
theorem lget_cols {r : Row} {k : Nat} (h : k < r.terms.length) : lget (r.terms.map fun t => SV.val (.int .i64 t.col)) k = .val (.int .i64 (gt r.terms k).col) := lget_m (fun t : Term => SV.val (.int .i64 t.col)) h
theorem lget_nums {r : Row} {k : Nat} (h : k < r.terms.length) : lget (r.terms.map fun t => qsv t.num) k = qsv (gt r.terms k).num := lget_m (fun t : Term => qsv t.num) h
set_option maxRecDepth 10000 in
theorem rValid_ok (p : Prob) (h : Few p) : PureF Tryz.prog 50 [probP p] (.val (.int .i64 (validC p : Nat))) := by
  have nc := h.nc
  have nr := h.nr
  have lc := colN_len p
  have lr := rowN_len p
  refine pure_enter Tryz.func50 rfl (by simp) (fun C hC => ?_)
  simp
  repeat' (apply And.intro <;> intro _)
  · have e := valid_2 (p := p) (.inr (by omega))
    simp [e]
  · have h2 : ¬ (120 < p.cols.length ∨ 120 < p.rows.length) := by omega
    refine CodeJ.loopL (ι := Nat) (fun i => ⟨138, [(1, .ptr 0 0 0), (3, iv i)], [some ⟨7, [probP p], false⟩]⟩)
      (fun i => i ≤ p.cols.length ∧ ((colN p).take i).Nodup ∧ e0 ∉ (colN p).take i) (fun i => p.cols.length - i) 0 (by simp) ?_ ?_
    · simp [leS, hC]
    · rintro i ⟨hi, hd, he⟩
      by_cases hlt : i < p.cols.length
      · simp (disch := omega) [hlt]
        repeat (refine And.intro (by omega) ?_)
        refine CodeJ.loopL (ι := Nat) (fun k => ⟨138, [(1, .ptr 0 0 0), (3, iv i), (4, iv k)], [some ⟨7, [probP p], false⟩]⟩)
          (fun k => k ≤ i ∧ ∀ k', k' < k → gt (colN p) i ≠ gt (colN p) k') (fun k => i - k) 0 (by simp) ?_ ?_
        · simp [leS, hC]
        · rintro k ⟨hk, hn⟩
          by_cases hki : k < i
          · simp (disch := omega) [hki]
            repeat (refine And.intro (by omega) ?_)
            refine CodeJ.draw (.qs [0, 1, 2, 3, 4, 5, 6, 7, 8, 9, 10, 11, 12] <| .nil) (by kernel_rfl) (by kernel_rfl) (by simp) ?_
            have hkl : k < p.cols.length := by omega
            simp (disch := omega) [lget_colP, w64]
            repeat (refine And.intro (by omega) ?_)
            rw [← gt_colN hlt, ← gt_colN hkl]
            refine ⟨fun q => ?_, fun q => ⟨k + 1, ⟨by omega, fun k' hk' => ?_⟩, by omega, Le.syn (by simp (disch := omega) [leS, hC, w64])⟩⟩
            · simp [valid_7 h2 (.inl (badN_dup (by omega) hki q))]
            · rcases Nat.lt_or_ge k' k with h' | h'
              · exact hn k' h'
              · obtain rfl : k' = k := by omega
                exact q
          · obtain rfl : k = i := by omega
            simp (disch := omega) [lget_colP, w64, hlt]
            repeat (refine And.intro (by omega) ?_)
            rw [← gt_colN hlt]
            refine ⟨fun q => ?_, fun q => ⟨k + 1, ⟨by omega, (nodup_take (by omega)).2 ⟨hd, (not_mem_take (by omega)).2 hn⟩, fun hm => ?_⟩, by omega, Le.syn (by simp (disch := omega) [leS, hC, w64])⟩⟩
            · simp [valid_7 h2 (.inl (badN_e (by omega) q))]
            · rcases (mem_take1 (by omega)).1 hm with h' | h'
              · exact he h'
              · exact q h'.symm
      · obtain rfl : i = p.cols.length := by omega
        rw [List.take_of_length_le (by omega)] at hd he
        have hbc := badN_no hd he
        simp
        refine CodeJ.loopL (ι := Nat) (fun i => ⟨138, [(1, .ptr 0 0 0), (5, iv i)], [some ⟨7, [probP p], false⟩]⟩)
          (fun i => i ≤ p.rows.length ∧ ((rowN p).take i).Nodup ∧ e0 ∉ (rowN p).take i) (fun i => p.rows.length - i) 0 (by simp) ?_ ?_
        · simp [leS, hC]
        · rintro i ⟨hi, hd, he⟩
          by_cases hlt : i < p.rows.length
          · simp (disch := omega) [hlt]
            repeat (refine And.intro (by omega) ?_)
            refine CodeJ.loopL (ι := Nat) (fun k => ⟨138, [(1, .ptr 0 0 0), (5, iv i), (6, iv k)], [some ⟨7, [probP p], false⟩]⟩)
              (fun k => k ≤ i ∧ ∀ k', k' < k → gt (rowN p) i ≠ gt (rowN p) k') (fun k => i - k) 0 (by simp) ?_ ?_
            · simp [leS, hC]
            · rintro k ⟨hk, hn⟩
              by_cases hki : k < i
              · simp (disch := omega) [hki]
                repeat (refine And.intro (by omega) ?_)
                refine CodeJ.draw (.qs [0, 1, 2, 3, 4, 5, 6, 7, 8, 9, 10, 11, 12] <| .nil) (by kernel_rfl) (by kernel_rfl) (by simp) ?_
                have hkl : k < p.rows.length := by omega
                simp (disch := omega) [lget_rowP, w64]
                repeat (refine And.intro (by omega) ?_)
                rw [← gt_rowN hlt, ← gt_rowN hkl]
                refine ⟨fun q => ?_, fun q => ⟨k + 1, ⟨by omega, fun k' hk' => ?_⟩, by omega, Le.syn (by simp (disch := omega) [leS, hC, w64])⟩⟩
                · simp [valid_7 h2 (.inr (badN_dup (by omega) hki q))]
                · rcases Nat.lt_or_ge k' k with h' | h'
                  · exact hn k' h'
                  · obtain rfl : k' = k := by omega
                    exact q
              · obtain rfl : k = i := by omega
                simp (disch := omega) [lget_rowP, w64, hlt]
                repeat (refine And.intro (by omega) ?_)
                rw [← gt_rowN hlt]
                refine ⟨fun q => ?_, fun q => ⟨k + 1, ⟨by omega, (nodup_take (by omega)).2 ⟨hd, (not_mem_take (by omega)).2 hn⟩, fun hm => ?_⟩, by omega, Le.syn (by simp (disch := omega) [leS, hC, w64])⟩⟩
                · simp [valid_7 h2 (.inr (badN_e (by omega) q))]
                · rcases (mem_take1 (by omega)).1 hm with h' | h'
                  · exact he h'
                  · exact q h'.symm
          · obtain rfl : i = p.rows.length := by omega
            rw [List.take_of_length_le (by omega)] at hd he
            have hbr := badN_no hd he
            simp
            refine CodeJ.loopL (ι := Nat) (fun i => ⟨138, [(1, .ptr 0 0 0), (7, iv i)], [some ⟨7, [probP p], false⟩]⟩)
              (fun i => i ≤ p.rows.length ∧ ∀ i', i' < i → badT p.cols.length (-1) (gt p.rows i').terms = false) (fun i => p.rows.length - i) 0 (by simp) ?_ ?_
            · simp [leS, hC]
            · rintro i ⟨hi, hb⟩
              by_cases hlt : i < p.rows.length
              · have nt := h.nt i hlt
                simp (disch := omega) [hlt]
                repeat (refine And.intro (by omega) ?_)
                refine CodeJ.loopL (ι := Nat × Int) (fun ⟨k, c⟩ => ⟨138, [(1, .ptr 0 0 0), (7, iv i), (8, iv c), (9, iv k)], [some ⟨7, [probP p], false⟩]⟩)
                  (fun ⟨k, c⟩ => k ≤ (gt p.rows i).terms.length ∧ badT p.cols.length c ((gt p.rows i).terms.drop k) = badT p.cols.length (-1) (gt p.rows i).terms) (fun ⟨k, c⟩ => (gt p.rows i).terms.length - k) (0, -1) (by simp) ?_ ?_
                · simp [leS, hC]
                · rintro ⟨k, c⟩ ⟨hk, hc⟩
                  by_cases hkl : k < (gt p.rows i).terms.length
                  · rw [badT_drop hkl] at hc
                    simp (disch := omega) [lget_rowP, hkl, lget_cols, lget_nums]
                    repeat (refine And.intro (by omega) ?_)
                    refine callS (sgnP (gt (gt p.rows i).terms k).num) (by simp) ?_
                    simp (disch := omega) [w64]
                    repeat (refine And.intro (by omega) ?_)
                    have v4 : badT p.cols.length (-1) (gt p.rows i).terms = true → (4 : Int) = (validC p : Nat) := fun e => by rw [valid_4 h2 hbc hbr (badR_at hlt e)]; rfl
                    refine ⟨fun q1 => ⟨fun q2 => ⟨fun q3 => v4 (by rw [← hc]; simp [q3]), fun q3 => ?_⟩, fun q2 => v4 (by rw [← hc]; simp [q2])⟩, fun q1 => v4 (by rw [← hc]; simp [q1])⟩
                    refine ⟨k + 1, (gt (gt p.rows i).terms k).col, ⟨by omega, ?_⟩, by omega, Le.syn (by simp (disch := omega) [leS, hC, w64])⟩
                    rw [← hc]
                    simp [q3, show ¬ (gt (gt p.rows i).terms k).col ≤ c by omega, show ¬ (p.cols.length : Int) ≤ (gt (gt p.rows i).terms k).col by omega]
                  · obtain rfl : k = (gt p.rows i).terms.length := by omega
                    rw [List.drop_length] at hc
                    simp (disch := omega) [lget_rowP]
                    repeat (refine And.intro (by omega) ?_)
                    refine ⟨i + 1, ⟨by omega, fun i' hi' => ?_⟩, by omega, Le.syn (by simp (disch := omega) [leS, hC, w64])⟩
                    rcases Nat.lt_or_ge i' i with h' | h'
                    · exact hb i' h'
                    · obtain rfl : i' = i := by omega
                      exact hc.symm
              · obtain rfl : i = p.rows.length := by omega
                simp [valid_0 h2 hbc hbr (badR_no hb)]
  · have e := valid_2 (p := p) (.inl (by omega))
    simp [e]
end Go.Proofs

