/- What the functions fits and Span of package plan return. A text of the prover's own. -/
import Derived.Test.YtlkaaaoeemejoaaDoorQPc
namespace Go.Pn
open Go Go.Sv
theorem useAt_drop {c : Nat} {t : Int} {js : List Job} {ss : List Int} {i : Nat} (h : i < js.length) (h' : i < ss.length) : useAt c t (js.drop i) (ss.drop i) = (if ig ss i ≤ t ∧ t < ig ss i + (jg js i).long then ig (jg js i).uses c else 0) + useAt c t (js.drop (i + 1)) (ss.drop (i + 1)) := by
  rw [jg_drop h, ig_drop h']; rfl
theorem useAt_end {c : Nat} {t : Int} {js : List Job} {ss : List Int} {i : Nat} (h : ss.length ≤ i) : useAt c t (js.drop i) (ss.drop i) = 0 := by
  rw [List.drop_eq_nil_of_le h]; cases js.drop i <;> rfl
theorem fitsFrom_drop {jobs : List Job} {ss : List Int} {t : Int} {l : List Int} {c : Nat} (h : c < l.length) : fitsFrom jobs ss t c (l.drop c) = (decide (useAt c t jobs ss ≤ ig l c) && fitsFrom jobs ss t (c + 1) (l.drop (c + 1))) := by
  rw [ig_drop h]; rfl
theorem ok_len {p : Plan} (h : OK p) : p.jobs.length ≤ 4398046511104 ∧ p.caps.length ≤ 4398046511104 := ⟨by have := h.nj; omega, by have := h.nc; omega⟩
end Go.Pn
namespace Go.Proofs
open Go.Sv Go Go.Pn
set_option maxRecDepth 10000 in
theorem pFits_ok (p : Plan) (hp : OK p) (ss : List Int) (hl : ss.length ≤ p.jobs.length) (hs : ∀ i, i < ss.length → 0 ≤ ig ss i ∧ ig ss i ≤ 100000000) (t : Int) :
    PureF Tryd.prog 28 [psv p, .ro (ss.map iz), iz t] (.val (.bool (fitsB p ss t))) := by
  refine pure_enter Tryd.func28 rfl (by simp) (fun C hC => ?_)
  obtain ⟨l1, l2⟩ := ok_len hp
  have hn := hp.nj
  simp
  refine CodeJ.loop (ι := Nat) (fun c => ⟨58, [(1, .ro (ss.map iz)), (2, iz t), (3, .ptr 0 0 0), (13, .ro (p.caps.map iz)), (14, .val (.int .i64 p.caps.length)), (15, .val (.int .i64 c))], [some ⟨2, [psv p], false⟩]⟩)
    (fun c => c ≤ p.caps.length ∧ fitsFrom p.jobs ss t c (p.caps.drop c) = fitsB p ss t) (fun c => p.caps.length - c) 0 ?_ ?_ ?_
  · simp [fitsB]
  · simp [leS]
  · rintro c ⟨hc, hf⟩
    by_cases hlt : c < p.caps.length
    · rw [fitsFrom_drop hlt] at hf
      simp (disch := omega) [hlt, lget_iz, w64]
      refine CodeJ.loop (ι := Nat × Int) (fun ⟨i, s⟩ => ⟨58, [(1, .ro (ss.map iz)), (2, iz t), (3, .ptr 0 0 0), (7, .val (.int .i64 c)), (8, iz (ig p.caps c)), (9, iz s), (13, .ro (p.caps.map iz)), (14, .val (.int .i64 p.caps.length)), (15, .val (.int .i64 c)), (20, .ro (ss.map iz)), (21, .val (.int .i64 ss.length)), (22, .val (.int .i64 i))], [some ⟨2, [psv p], false⟩]⟩)
        (fun ⟨i, s⟩ => i ≤ ss.length ∧ 0 ≤ s ∧ s ≤ 100000000 * i ∧ s + useAt c t (p.jobs.drop i) (ss.drop i) = useAt c t p.jobs ss) (fun ⟨i, s⟩ => ss.length - i) (0, 0) ?_ ?_ ?_
      · simp
      · simp [leS]
      · rintro ⟨i, s⟩ ⟨hi, hs0, hs1, hu⟩
        by_cases hil : i < ss.length
        · rw [useAt_drop (by omega) hil] at hu
          obtain ⟨b1, b2⟩ := hs i hil
          obtain ⟨b3, b4, -⟩ := hp.long i (by omega)
          have b5 := hp.usl i (by omega)
          obtain ⟨b6, b7⟩ := hp.use i c (by omega) hlt
          have b8 := (hp.cap c hlt).2
          simp (disch := omega) [hil, lget_iz, lget_jsv, w64]
          refine ⟨fun c1 => ⟨by omega, fun c2 => ⟨by omega, by omega, i + 1, s + ig (jg p.jobs i).uses c, ⟨by omega, by omega, by omega, ?_⟩, by omega, by simp (disch := omega) [leS, hC, w64]⟩, fun c2 => ⟨i + 1, s, ⟨by omega, by omega, by omega, ?_⟩, by omega, by simp [leS, hC]⟩⟩, fun c1 => ⟨i + 1, s, ⟨by omega, by omega, by omega, ?_⟩, by omega, by simp [leS, hC]⟩⟩
          · rw [if_pos ⟨c1, c2⟩] at hu; omega
          · rw [if_neg (by omega)] at hu; omega
          · rw [if_neg (by omega)] at hu; omega
        · obtain rfl : i = ss.length := by omega
          rw [useAt_end (Nat.le_refl _)] at hu
          obtain rfl : s = useAt c t p.jobs ss := by omega
          simp (disch := omega) [w64]
          refine ⟨fun h => ?_, fun h => ?_⟩
          · have e : ¬ useAt c t p.jobs ss ≤ ig p.caps c := by omega
            simp [e] at hf
            exact hf
          · have e : useAt c t p.jobs ss ≤ ig p.caps c := by omega
            simp [e] at hf
            exact ⟨c + 1, ⟨by omega, hf⟩, by omega, by simp [leS, hC]⟩
    · obtain rfl : c = p.caps.length := by omega
      rw [List.drop_length] at hf
      simp
      simpa [fitsFrom] using hf.symm
end Go.Proofs
namespace Go.Proofs
open Go.Sv Go Go.Pn
/-- what Span tells: when all is done, whether it can be, an error -/
def spanV (p : Plan) (ss : List Int) : SV :=
  if pvalid p ≠ 0 then .tup [iz 0, .val (.bool false), eSV (pvalid p)]
  else if ss.length ≠ p.jobs.length then .tup [iz 0, .val (.bool false), eSV 4]
  else .tup [iz (spanR p ss).1, .val (.bool (spanR p ss).2), .val .nilIface]
theorem spanR_all {p : Plan} {ss : List Int} (h : ∀ i, i < p.jobs.length → stepB p ss i = true) : spanR p ss = (endOf p.jobs ss 0, true) := by
  unfold spanR; rw [if_pos (by simpa using h)]
theorem spanR_not {p : Plan} {ss : List Int} {i : Nat} (hi : i < p.jobs.length) (h : stepB p ss i = false) : spanR p ss = (0, false) := by
  unfold spanR; rw [if_neg]
  intro hh
  have := List.all_eq_true.1 hh i (List.mem_range.2 hi)
  rw [h] at this; cases this
theorem endOf_drop {js : List Job} {ss : List Int} {i : Nat} {e : Int} (h : i < js.length) (h' : i < ss.length) : endOf (js.drop i) (ss.drop i) e = endOf (js.drop (i + 1)) (ss.drop (i + 1)) (max e (ig ss i + (jg js i).long)) := by
  rw [jg_drop h, ig_drop h']; rfl
theorem endOf_end {js : List Job} {ss : List Int} {i : Nat} {e : Int} (h : js.length ≤ i) : endOf (js.drop i) (ss.drop i) e = e := by
  rw [List.drop_eq_nil_of_le h]; rfl
theorem okAft_drop {p : Plan} {ss : List Int} {s : Int} {l : List Int} {k : Nat} (h : k < l.length) : okAft p ss s (l.drop k) = (decide (ig ss (ig l k).toNat + (jg p.jobs (ig l k).toNat).long ≤ s) && okAft p ss s (l.drop (k + 1))) := by
  rw [ig_drop h]; rfl
set_option maxRecDepth 10000 in
theorem pSpan_ok (p : Plan) (ss : List Int) (h0 : ss.length ≤ 4398046511104) (h1 : p.jobs.length ≤ 4398046511104) (h2 : p.caps.length ≤ 4398046511104) (h3 : ∀ i, i < p.jobs.length → (jg p.jobs i).after.length ≤ 4398046511104 ∧ (jg p.jobs i).uses.length ≤ 4398046511104) :
    PureF Tryd.prog 8 [psv p, .ro (ss.map iz)] (spanV p ss) := by
  refine pure_enter Tryd.func8 rfl (by simp) (fun C hC => ?_)
  have hv := pValid_ok p h1 h2 h3
  unfold spanV
  simp
  refine callS hv (by simp) ?_
  by_cases v0 : pvalid p = 0
  · have hp := ok_of v0
    simp [v0]
    refine ⟨fun hne => ?_, fun heq => ?_⟩
    · refine CodeJ.draw (.qs [0, 1, 2, 3] <| .nil) (by kernel_rfl) (by kernel_rfl) (by simp) ?_
      have hne' : ¬ ss.length = p.jobs.length := by omega
      simp [hne']
      rfl
    · have hl : ss.length = p.jobs.length := by omega
      refine CodeJ.loop (ι := Nat × Int) (fun ⟨i, e⟩ => ⟨133, [(1, .ro (ss.map iz)), (2, .ptr 0 0 0), (8, iz e), (27, .ro (p.jobs.map jsv)), (28, .val (.int .i64 p.jobs.length)), (29, .val (.int .i64 i))], [some ⟨2, [psv p], false⟩]⟩)
        (fun ⟨i, e⟩ => i ≤ p.jobs.length ∧ (∀ k, k < i → stepB p ss k = true) ∧ 0 ≤ e ∧ e ≤ 100000030 ∧ endOf (p.jobs.drop i) (ss.drop i) e = endOf p.jobs ss 0) (fun ⟨i, e⟩ => p.jobs.length - i) (0, 0) ?_ ?_ ?_
      · simp
      · simp [leS]
      · rintro ⟨i, e⟩ ⟨hi, hst, he0, he1, he⟩
        have hbd : ∀ k, k < i → 0 ≤ ig ss k ∧ ig ss k ≤ 100000000 := fun k hk => by
          have := hst k hk
          simp only [stepB, okStart, Bool.and_eq_true, decide_eq_true_eq] at this
          exact this.1.1.1
        by_cases hlt : i < p.jobs.length
        · obtain ⟨b3, b4, b4'⟩ := hp.long i hlt
          have b5 := hp.aft i
          simp (disch := omega) [hlt, lget_iz, lget_jsv, w64]
          have bad : stepB p ss i = false → spanR p ss = (0, false) := spanR_not hlt
          have hstep : stepB p ss i = (okStart (ig ss i) && okAft p ss (ig ss i) (jg p.jobs i).after && fitsB p (ss.take (i + 1)) (ig ss i) && (List.range i).all (okMid p ss i)) := rfl
          generalize hj : jg p.jobs i = j at *
          refine ⟨by omega, fun d1 => ⟨by omega, fun d2 => ?_, fun d2 => ?_⟩, fun d1 => ?_⟩
          · rw [bad (by rw [hstep]; simp [okStart]; omega)]; simp [hl]
          · have s1 : okStart (ig ss i) = true := by simp [okStart]; omega
            refine CodeJ.loop (ι := Nat) (fun k => ⟨133, [(1, .ro (ss.map iz)), (2, .ptr 0 0 0), (8, iz e), (9, .val (.int .i64 i)), (10, .ptr 1 0 0), (27, .ro (p.jobs.map jsv)), (28, .val (.int .i64 p.jobs.length)), (29, .val (.int .i64 i)), (47, .ro (j.after.map iz)), (48, .val (.int .i64 j.after.length)), (49, .val (.int .i64 k))], [some ⟨2, [psv p], false⟩, some ⟨3, [jsv j], false⟩]⟩)
              (fun k => k ≤ j.after.length ∧ okAft p ss (ig ss i) (j.after.drop k) = okAft p ss (ig ss i) j.after) (fun k => j.after.length - k) 0 ?_ ?_ ?_
            · simp
            · simp [leS]
            · rintro k ⟨hk, ha⟩
              by_cases hkl : k < j.after.length
              · rw [okAft_drop hkl] at ha
                obtain ⟨b6, b7⟩ := b5 (ig j.after k) hlt (by rw [ig_eq hkl]; exact List.getElem_mem hkl)
                obtain ⟨b8, b9⟩ := hbd (ig j.after k).toNat (by omega)
                obtain ⟨b10, b11, -⟩ := hp.long (ig j.after k).toNat (by omega)
                simp (disch := omega) [hkl, lget_iz]
                refine CodeJ.draw (.qs [0, 1, 2, 3, 4, 5, 6, 7, 8, 9, 10, 11, 12, 13, 14, 15] <| .nil) (by kernel_rfl) (by kernel_rfl) (by simp) ?_
                simp (disch := omega) [lget_iz, lget_jsv, w64]
                refine ⟨by omega, ⟨by omega, by omega⟩, ⟨by omega, by omega⟩, fun c1 => ?_, fun c1 => ?_⟩
                · have e1 : ¬ ig ss (ig j.after k).toNat + (jg p.jobs (ig j.after k).toNat).long ≤ ig ss i := by omega
                  simp [e1] at ha
                  rw [bad (by rw [hstep, ha]; simp)]; simp [hl]
                · simp [c1] at ha
                  exact ⟨k + 1, ⟨by omega, ha⟩, by omega, by simp [leS, hC]⟩
              · obtain rfl : k = j.after.length := by omega
                rw [List.drop_length] at ha
                have s2 : okAft p ss (ig ss i) j.after = true := ha.symm
                clear ha
                simp (disch := omega) [w64]
                have htk : (ss.take (i + 1)).length = i + 1 := by simp; omega
                have hfit := fun t => pFits_ok p hp (ss.take (i + 1)) (by omega) (fun k hk => by
                  rw [htk] at hk
                  rw [ig_take (by omega)]
                  rcases Nat.lt_or_ge k i with h | h
                  · exact hbd k h
                  · obtain rfl : k = i := by omega
                    exact ⟨d1, d2⟩) t
                refine CodeJ.draw (.qs [0, 1, 2, 3, 4, 5, 6, 7, 8] <| .l 9 [] <| .qs [10] <| .nil) (by kernel_rfl) (by kernel_rfl) (by simp) ?_
                simp (disch := omega) [lget_iz, w64]
                refine ⟨by omega, by omega, ?_⟩
                rw [← List.map_take]
                refine callS (hfit _) (by simp) ?_
                by_cases s3 : fitsB p (ss.take (i + 1)) (ig ss i) = true
                · simp [s3]
                  refine CodeJ.loop (ι := Nat) (fun k => ⟨133, [(1, .ro (ss.map iz)), (2, .ptr 0 0 0), (8, iz e), (9, .val (.int .i64 i)), (10, .ptr 1 0 0), (27, .ro (p.jobs.map jsv)), (28, .val (.int .i64 p.jobs.length)), (29, .val (.int .i64 i)), (81, .val (.int .i64 i)), (82, .val (.int .i64 k))], [some ⟨2, [psv p], false⟩, some ⟨3, [jsv j], false⟩]⟩)
                    (fun k => k ≤ i ∧ ∀ q, q < k → okMid p ss i q = true) (fun k => i - k) 0 ?_ ?_ ?_
                  · simp
                  · simp [leS]
                  · rintro k ⟨hk, hm⟩
                    by_cases hkl : k < i
                    · have hmid : okMid p ss i k = (!(decide (ig ss i < ig ss k) && decide (ig ss k < ig ss i + j.long)) || fitsB p (ss.take (i + 1)) (ig ss k)) := by unfold okMid; rw [hj]
                      obtain ⟨b8, b9⟩ := hbd k hkl
                      have nobad : okMid p ss i k = false → spanR p ss = (0, false) := fun hh => bad (by
                        rw [hstep, Bool.and_eq_false_iff]; right
                        rw [List.all_eq_false]
                        exact ⟨k, List.mem_range.2 hkl, by rw [hh]; simp⟩)
                      have next : okMid p ss i k = true → ∀ q, q < k + 1 → okMid p ss i q = true := fun hh q hq => by
                        rcases Nat.lt_or_ge q k with h | h
                        · exact hm q h
                        · obtain rfl : q = k := by omega
                          exact hh
                      simp (disch := omega) [hkl]
                      refine CodeJ.draw (.qs [0, 1, 2, 3, 4, 5, 6, 7, 8, 9, 10, 11, 12, 13, 14, 15, 16, 17, 18, 19, 20, 21, 22, 23, 24, 25, 26, 27, 28, 29, 30, 31, 32] <| .l 33 [] <| .qs [34, 35] <| .nil) (by kernel_rfl) (by kernel_rfl) (by simp) ?_
                      simp (disch := omega) [lget_iz, lget_jsv, w64]
                      refine ⟨by omega, by omega, fun c1 => ⟨by omega, by omega, fun c2 => ⟨by omega, by omega, ?_⟩, fun c2 => ⟨k + 1, ⟨by omega, next (by rw [hmid, show decide (ig ss k < ig ss i + j.long) = false from by simp; omega]; simp)⟩, by omega, by simp [leS, hC]⟩⟩, fun c1 => ⟨k + 1, ⟨by omega, next (by rw [hmid, show decide (ig ss i < ig ss k) = false from by simp; omega]; simp)⟩, by omega, by simp [leS, hC]⟩⟩
                      rw [← List.map_take]
                      refine callS (hfit _) (by simp) ?_
                      by_cases s4 : fitsB p (ss.take (i + 1)) (ig ss k) = true
                      · simp [s4]
                        exact ⟨k + 1, ⟨by omega, next (by rw [hmid, s4]; simp)⟩, by omega, by simp (disch := omega) [leS, hC, w64]⟩
                      · have s4' : fitsB p (ss.take (i + 1)) (ig ss k) = false := by simpa using s4
                        simp [s4']
                        rw [nobad (by rw [hmid, s4']; simp [c1, c2])]; simp [hl]
                    · obtain rfl : k = i := by omega
                      have hs5 : stepB p ss k = true := by
                        rw [hstep, s1, s2, s3]
                        simpa using hm
                      simp
                      refine CodeJ.draw (.qs [0, 1, 2, 3, 4, 5, 6, 7, 8, 9] <| .nil) (by kernel_rfl) (by kernel_rfl) (by simp) ?_
                      simp (disch := omega) [lget_iz, w64]
                      rw [endOf_drop hlt (by omega), hj] at he
                      refine ⟨by omega, k + 1, max e (ig ss k + j.long), ⟨by omega, fun q hq => ?_, by omega, by omega, he⟩, by omega, by simp [leS, hC]⟩
                      rcases Nat.lt_or_ge q k with h | h
                      · exact hst q h
                      · obtain rfl : q = k := by omega
                        exact hs5
                · have s3' : fitsB p (ss.take (i + 1)) (ig ss i) = false := by simpa using s3
                  simp [s3']
                  rw [bad (by rw [hstep, s3']; simp)]; simp [hl]
          · rw [bad (by rw [hstep]; simp [okStart]; omega)]; simp [hl]
        · obtain rfl : i = p.jobs.length := by omega
          rw [endOf_end (Nat.le_refl _)] at he
          simp [hl, spanR_all hst, he]
  · simp [v0]
end Go.Proofs
