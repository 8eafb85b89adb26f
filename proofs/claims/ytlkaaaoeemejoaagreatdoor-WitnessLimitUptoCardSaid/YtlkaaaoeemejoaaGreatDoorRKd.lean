/- What the document makes of a problem in texts. A text of the prover's own. -/
import Derived.Test.YtlkaaaoeemejoaaGreatDoorRKb
namespace Go.Proofs
open Go.Sv Go Go.Tb Go.Pl Go.Ut Go.Li
set_option maxRecDepth 10000 in
theorem rFrom1_ok (s : SpecT) (h : SmS s) : PureF Tryz.prog 114 [specT s, .val (.bool false)] (.tup [probX s, .val (.bool (okS s))]) := by
  have nc := h.nc
  have nr := h.nr
  refine pure_enterW Tryz.func114 rfl (by simp) (fun C hC => ?_)
  simp
  refine callS (number1_ok s.shift h.shift) (by simp) ?_
  simp [flV]
  refine CodeJ.le (Le.nilCell 2 5 16 rfl rfl rfl rfl (by simp)) ?_
  refine CodeJ.loop (ι := Nat) (fun i => ⟨193, [(1, bov false), (2, .ptr 0 0 0), (4, .ptr 1 0 0), (6, .ptr 2 0 0), (9, bov (okNum s.shift && (s.cols.take i).all Li.okC)), (10, iv i)],
      [some ⟨4, [specT s], false⟩, some ⟨7, [.agg [.val (.bool false), .val (.bool false), .val (.slice none 0 0), .val (.bool false), .val (.slice none 0 0), .val (.slice none 0 0), .val (.slice none 0 0)]], false⟩, some ⟨7, [.agg (bov s.max :: ((qb (numB s.shift)).cells ++ [.view 5 0 i, .val (.slice none 0 0)]))], false⟩, some ⟨4, [qb (numB s.shift)], false⟩, some ⟨2, [flV s.shift], false⟩, some ⟨16, (s.cols.take i).map colX, false⟩]⟩)
    (fun i => i ≤ s.cols.length) (fun i => s.cols.length - i) 0 (by omega) ?_ ?_
  · simp [leS, hC, tset, flV, okNum]
  · rintro i hi
    by_cases hlt : i < s.cols.length
    · have hc := h.cols i hlt
      simp (disch := omega) [hlt, lget_colT, w64]
      repeat (refine And.intro (by omega) ?_)
      generalize hb : (okNum s.shift && (s.cols.take i).all Li.okC) = b
      have e : (okNum s.shift && (s.cols.take (i + 1)).all Li.okC) = (b && (okBo (gt s.cols i).low && okBo (gt s.cols i).high && decide ((qrd 300 (gt s.cols i).cost).2.1 = 0))) := by rw [all_take _ hlt, ← Bool.and_assoc, hb]; rfl
      refine callS (rBound_ok (gt s.cols i).low hc.low) (by simp) ?_
      simp
      refine callS (rBound_ok (gt s.cols i).high hc.high) (by simp) ?_
      simp
      refine callS (number1_ok (gt s.cols i).cost hc.cost) (by simp) ?_
      simp [flV]
      repeat' (apply And.intro <;> intro _)
      all_goals
        refine ⟨⟨by simp [hC], by omega, by omega⟩, i + 1, by omega, by omega, ?_⟩
        rw [colX_mk]
        simp (disch := omega) [leS, hC, take1 _ hlt, e, w64, *]
    · obtain rfl : i = s.cols.length := by omega
      simp
      refine CodeJ.le (Le.nilCell 2 6 13 rfl rfl rfl rfl (by simp)) ?_
      refine CodeJ.loopL (ι := Nat) (fun i => ⟨193, [(1, bov false), (2, .ptr 0 0 0), (4, .ptr 1 0 0), (6, .ptr 2 0 0), (9, bov (okNum s.shift && s.cols.all Li.okC && (s.rows.take i).all okR)), (18, iv i)],
          [some ⟨4, [specT s], false⟩, some ⟨7, [.agg [.val (.bool false), .val (.bool false), .val (.slice none 0 0), .val (.bool false), .val (.slice none 0 0), .val (.slice none 0 0), .val (.slice none 0 0)]], false⟩, some ⟨7, [.agg (bov s.max :: ((qb (numB s.shift)).cells ++ [.view 5 0 s.cols.length, .view 6 0 i]))], false⟩, some ⟨4, [qb (numB s.shift)], false⟩, some ⟨2, [flV s.shift], false⟩, some ⟨16, s.cols.map colX, false⟩, some ⟨13, (s.rows.take i).map rowX, false⟩]⟩)
        (fun i => i ≤ s.rows.length) (fun i => s.rows.length - i) 0 (by omega) ?_ ?_
      · simp [leS, hC, tset]
        done
      · rintro i hi
        by_cases hlt : i < s.rows.length
        · have hr := h.rows i hlt
          have hr2 := hr.cols
          have hr3 := hr.nums.n
          simp (disch := omega) [hlt, lget_rowT, w64]
          repeat (refine And.intro (by omega) ?_)
          generalize hb : (okNum s.shift && s.cols.all Li.okC && (s.rows.take i).all okR) = b
          refine callS (rBound_ok (gt s.rows i).low hr.low) (by simp) ?_
          simp
          refine callS (rBound_ok (gt s.rows i).high hr.high) (by simp) ?_
          simp
          have hz := zipR_len (gt s.rows i)
          repeat' (apply And.intro <;> intro _)
          all_goals
            refine CodeJ.le (Le.nilCell 10 1 1 rfl rfl rfl rfl (by simp)) ?_
            simp [tset]
            refine CodeJ.le (Le.nilCell 10 2 4 rfl rfl rfl rfl (by simp)) ?_
            refine CodeJ.loop (ι := Nat) (fun j => ⟨193, [(1, bov false), (2, .ptr 0 0 0), (4, .ptr 1 0 0), (6, .ptr 2 0 0), (9, bov (b && okBo (gt s.rows i).low && okBo (gt s.rows i).high && ((zipR (gt s.rows i)).take j).all fun z => okNum z.2)), (18, iv i), (19, .ptr 7 0 0), (24, .ptr 10 0 0), (25, iv j)],
              [some ⟨4, [specT s], false⟩, some ⟨7, [.agg [.val (.bool false), .val (.bool false), .val (.slice none 0 0), .val (.bool false), .val (.slice none 0 0), .val (.slice none 0 0), .val (.slice none 0 0)]], false⟩, some ⟨7, [.agg (bov s.max :: ((qb (numB s.shift)).cells ++ [.view 5 0 s.cols.length, .view 6 0 i]))], false⟩, some ⟨4, [qb (numB s.shift)], false⟩, some ⟨2, [flV s.shift], false⟩, some ⟨16, s.cols.map colX, false⟩, some ⟨13, (s.rows.take i).map rowX, false⟩,
                some ⟨5, [rowT (gt s.rows i)], false⟩, some ⟨5, [boX (!isNo (gt s.rows i).low) (boN (gt s.rows i).low)], false⟩, some ⟨5, [boX (!isNo (gt s.rows i).high) (boN (gt s.rows i).high)], false⟩,
                some ⟨13, [.agg (strv (gt s.rows i).name :: .view 11 0 j :: .view 12 0 j :: ((boX (!isNo (gt s.rows i).low) (boN (gt s.rows i).low)).cells ++ (boX (!isNo (gt s.rows i).high) (boN (gt s.rows i).high)).cells))], false⟩, some ⟨1, ((zipR (gt s.rows i)).take j).map (fun z => iv z.1), false⟩, some ⟨4, ((zipR (gt s.rows i)).take j).map (fun z => qb (numB z.2)), false⟩]⟩)
              (fun j => j ≤ (zipR (gt s.rows i)).length) (fun j => (zipR (gt s.rows i)).length - j) 0 (by omega) ?_ ?_
            · simp [leS, hC, tset, *]
            · rintro j hj
              by_cases hjl : j < (zipR (gt s.rows i)).length
              · have h1 : j < (gt s.rows i).cols.length := by omega
                have h2 : j < (gt s.rows i).nums.length := by omega
                have h3 := hr.nums.s _ (gt_mem h2)
                simp (disch := omega) [hjl, lget_iv, lget_str, h1, h2, w64]
                repeat (refine And.intro (by omega) ?_)
                generalize hb2 : (b && okBo (gt s.rows i).low && okBo (gt s.rows i).high && ((zipR (gt s.rows i)).take j).all fun z => okNum z.2) = b2
                have e : (b && okBo (gt s.rows i).low && okBo (gt s.rows i).high && ((zipR (gt s.rows i)).take (j + 1)).all fun z => okNum z.2) = (b2 && decide ((qrd 300 (gt (gt s.rows i).nums j)).2.1 = 0)) := by rw [all_take _ hjl, ← Bool.and_assoc, hb2, gt_zipR hjl]; rfl
                refine callS (number1_ok (gt (gt s.rows i).nums j) h3) (by simp) ?_
                simp [flV]
                repeat' (apply And.intro <;> intro _)
                all_goals
                  refine CodeJ.draw (.qs [0, 1, 2, 3, 4, 5, 6] <| .l 7 [] <| .l 8 [1000000] <| .qs [9] <| .l 10 [10, 1000000] <| .nil) (by kernel_rfl) (by kernel_rfl) (by simp) ?_
                  simp (disch := omega) [h1, h2, lget_iv]
                  repeat (refine And.intro (by omega) ?_)
                  rename_i q
                  refine ⟨⟨by simp [hC], by omega⟩, ⟨by simp [hC], by omega⟩, j + 1, by omega, by omega, ?_⟩
                  simp (disch := omega) [leS, hC, take1 _ hjl, gt_zipR hjl, e, w64, q]
              · obtain rfl : j = (zipR (gt s.rows i)).length := by omega
                by_cases h1 : (zipR (gt s.rows i)).length < (gt s.rows i).cols.length
                all_goals
                  simp (disch := omega) [h1, w64]
                  repeat (refine And.intro (by omega) ?_)
                  repeat' (intro _)
                  have e : (okNum s.shift && s.cols.all Li.okC && (s.rows.take (i + 1)).all okR) = (b && (okBo (gt s.rows i).low && okBo (gt s.rows i).high && (zipR (gt s.rows i)).all fun z => okNum z.2)) := by rw [all_take _ hlt, ← Bool.and_assoc, hb]; rfl
                  refine ⟨⟨by simp [hC], by omega⟩, i + 1, by omega, by omega, ?_⟩
                  refine (Le.frz 12 rfl (by simp)).trans ?_
                  simp [frzS, tset]
                  refine (Le.frz 11 rfl (by simp)).trans ?_
                  simp [frzS, tset]
                  rw [← rowX_mk]
                  refine Le.syn ?_
                  simp (disch := omega) [leS, hC, take1 _ hlt, e, w64, Bool.and_assoc]
        · obtain rfl : i = s.rows.length := by omega
          simp
          refine ⟨_, (Le.frz 6 rfl (by simp)).trans (Le.frz 5 rfl (by simp)), ?_⟩
          simp [frzS, tset]
          rw [← probX_mk]
          exact ⟨Sub_self _ _ rfl, rfl⟩
theorem rFrom_ok (s : SpecT) (h : SmS s) : PureF Tryz.prog 58 [specT s] (.tup [probX s, .val (.bool (okS s))]) := by
  refine pure_enter Tryz.func58 rfl (by simp) (fun C hC => ?_)
  simp
  refine callS (rFrom1_ok s h) (by simp) ?_
  simp
end Go.Proofs

