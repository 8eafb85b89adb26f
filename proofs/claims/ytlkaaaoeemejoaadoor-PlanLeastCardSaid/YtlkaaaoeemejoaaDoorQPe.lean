/- What the document's function Ends returns. A text of the prover's own. -/
import Derived.Test.YtlkaaaoeemejoaaDoorQPd
namespace Go.Pn
open Go Go.Sv
theorem all_drop {f : Int → Bool} {l : List Int} {i : Nat} (h : i < l.length) : (l.drop i).all f = (f (ig l i) && (l.drop (i + 1)).all f) := by
  rw [ig_drop h]; rfl
theorem endsR_start {p : Plan} {ss : List Int} (h : ss.all okStart = false) : endsR p ss = (0, false) := by
  unfold endsR; rw [if_neg (by simp [h])]
theorem endsR_not {p : Plan} {ss : List Int} {i : Nat} (hi : i < ss.length) (h : endB p ss i = false) : endsR p ss = (0, false) := by
  unfold endsR; rw [if_neg]
  rintro ⟨-, hh⟩
  have := List.all_eq_true.1 hh i (List.mem_range.2 hi)
  rw [h] at this; cases this
theorem endsR_all {p : Plan} {ss : List Int} (h0 : ss.all okStart = true) (h : ∀ i, i < ss.length → endB p ss i = true) : endsR p ss = (endOf p.jobs ss 0, true) := by
  unfold endsR; rw [if_pos ⟨h0, by simpa using h⟩]
end Go.Pn
namespace Go.Proofs
open Go.Sv Go Go.Pn
set_option maxRecDepth 10000 in
theorem rEnds_ok (p : Plan) (hp : OK p) (ss : List Int) (hl : ss.length = p.jobs.length) :
    PureF Tryd.prog 14 [psv p, .ro (ss.map iz)] (.tup [iz (endsR p ss).1, .val (.bool (endsR p ss).2)]) := by
  refine pure_enter Tryd.func14 rfl (by simp) (fun C hC => ?_)
  have hn := hp.nj
  have hm := hp.nc
  simp
  refine CodeJ.loop (ι := Nat × Int) (fun ⟨i, e⟩ => ⟨149, [(1, .ro (ss.map iz)), (2, .ptr 0 0 0), (6, iz e), (7, .val (.int .i64 i))], [some ⟨2, [psv p], false⟩]⟩)
    (fun ⟨i, e⟩ => i ≤ ss.length ∧ (ss.drop i).all okStart = ss.all okStart ∧ (∀ k, k < i → 0 ≤ ig ss k ∧ ig ss k ≤ 100000000) ∧ 0 ≤ e ∧ e ≤ 100000030 ∧ endOf (p.jobs.drop i) (ss.drop i) e = endOf p.jobs ss 0) (fun ⟨i, e⟩ => ss.length - i) (0, 0) ?_ ?_ ?_
  · simp
  · simp [leS]
  · rintro ⟨i, e⟩ ⟨hi, hst, hbd, he0, he1, he⟩
    by_cases hlt : i < ss.length
    · rw [all_drop hlt] at hst
      rw [endOf_drop (by omega) hlt] at he
      obtain ⟨b3, b4, -⟩ := hp.long i (by omega)
      simp (disch := omega) [hlt, lget_iz, w64]
      refine ⟨fun c1 => ⟨fun c2 => ?_, fun c2 => ?_⟩, fun c1 => ?_⟩
      · rw [endsR_start (by rw [← hst]; simp [okStart]; omega)]; simp
      · have ok : okStart (ig ss i) = true := by simp [okStart]; omega
        have hbd' : ∀ k, k < i + 1 → 0 ≤ ig ss k ∧ ig ss k ≤ 100000000 := fun k hk => by
          rcases Nat.lt_or_ge k i with h | h
          · exact hbd k h
          · obtain rfl : k = i := by omega
            exact ⟨c1, c2⟩
        rw [ok, Bool.true_and] at hst
        refine CodeJ.draw (.qs [0, 1, 2, 3, 4, 5, 6, 7, 8, 9, 10, 11] <| .nil) (by kernel_rfl) (by kernel_rfl) (by simp) ?_
        simp (disch := omega) [lget_iz, lget_jsv, w64]
        refine ⟨by omega, by omega, fun d1 => ?_, fun d1 => ?_⟩
        · exact ⟨i + 1, ig ss i + (jg p.jobs i).long, ⟨by omega, hst, hbd', by omega, by omega, by rw [← he]; congr 1; omega⟩, by omega, by simp (disch := omega) [leS, hC, w64]⟩
        · exact ⟨i + 1, e, ⟨by omega, hst, hbd', by omega, by omega, by rw [← he]; congr 1; omega⟩, by omega, by simp (disch := omega) [leS, hC, w64]⟩
      · rw [endsR_start (by rw [← hst]; simp [okStart]; omega)]; simp
    · obtain rfl : i = ss.length := by omega
      rw [List.drop_length] at hst
      rw [endOf_end (by omega)] at he
      have s0 : ss.all okStart = true := by rw [← hst]; rfl
      clear hst
      simp
      refine CodeJ.loop (ι := Nat) (fun i => ⟨149, [(1, .ro (ss.map iz)), (2, .ptr 0 0 0), (6, iz e), (9, .val (.int .i64 i))], [some ⟨2, [psv p], false⟩]⟩)
        (fun i => i ≤ ss.length ∧ ∀ k, k < i → endB p ss k = true) (fun i => ss.length - i) 0 ?_ ?_ ?_
      · simp
      · simp [leS]
      · rintro i ⟨hi, hall⟩
        by_cases hlt : i < ss.length
        · have bad : endB p ss i = false → endsR p ss = (0, false) := endsR_not hlt
          have hend : endB p ss i = (okAft p ss (ig ss i) (jg p.jobs i).after && fitsB p ss (ig ss i)) := rfl
          obtain ⟨b3, b4, b4'⟩ := hp.long i (by omega)
          have b5 := hp.aft i
          simp (disch := omega) [hlt, w64]
          generalize hj : jg p.jobs i = j at *
          refine CodeJ.loop (ι := Nat) (fun k => ⟨149, [(1, .ro (ss.map iz)), (2, .ptr 0 0 0), (6, iz e), (9, .val (.int .i64 i)), (10, .val (.int .i64 k))], [some ⟨2, [psv p], false⟩]⟩)
              (fun k => k ≤ j.after.length ∧ okAft p ss (ig ss i) (j.after.drop k) = okAft p ss (ig ss i) j.after) (fun k => j.after.length - k) 0 ?_ ?_ ?_
          · simp
          · simp [leS]
          · rintro k ⟨hk, ha⟩
            by_cases hkl : k < j.after.length
            · rw [okAft_drop hkl] at ha
              obtain ⟨b6, b7⟩ := b5 (ig j.after k) (by omega) (by rw [ig_eq hkl]; exact List.getElem_mem hkl)
              obtain ⟨b8, b9⟩ := hbd (ig j.after k).toNat (by omega)
              obtain ⟨b10, b11, -⟩ := hp.long (ig j.after k).toNat (by omega)
              simp (disch := omega) [hkl, lget_iz, lget_jsv, hj]
              refine ⟨by omega, ?_⟩
              refine CodeJ.draw (.qs [0, 1, 2, 3, 4, 5, 6, 7, 8, 9, 10, 11, 12, 13, 14, 15] <| .nil) (by kernel_rfl) (by kernel_rfl) (by simp) ?_
              simp (disch := omega) [lget_iz, lget_jsv, w64]
              refine ⟨by omega, ⟨by omega, by omega⟩, ⟨by omega, by omega⟩, fun c1 => ?_, fun c1 => ?_⟩
              · have e1 : ¬ ig ss (ig j.after k).toNat + (jg p.jobs (ig j.after k).toNat).long ≤ ig ss i := by omega
                simp [e1] at ha
                rw [bad (by rw [hend, ha]; simp)]; simp
              · simp [c1] at ha
                exact ⟨k + 1, ⟨by omega, ha⟩, by omega, by simp (disch := omega) [leS, hC, w64]⟩
            · obtain rfl : k = j.after.length := by omega
              rw [List.drop_length] at ha
              have s2 : okAft p ss (ig ss i) j.after = true := ha.symm
              clear ha
              simp (disch := omega) [lget_jsv, hj]
              refine ⟨by omega, ?_⟩
              refine CodeJ.loop (ι := Nat) (fun c => ⟨149, [(1, .ro (ss.map iz)), (2, .ptr 0 0 0), (6, iz e), (9, .val (.int .i64 i)), (12, .val (.int .i64 c))], [some ⟨2, [psv p], false⟩]⟩)
                (fun c => c ≤ p.caps.length ∧ fitsFrom p.jobs ss (ig ss i) c (p.caps.drop c) = fitsB p ss (ig ss i)) (fun c => p.caps.length - c) 0 ?_ ?_ ?_
              · simp [fitsB]
              · simp [leS]
              · rintro c ⟨hc, hf⟩
                by_cases hcl : c < p.caps.length
                · rw [fitsFrom_drop hcl] at hf
                  simp (disch := omega) [hcl]
                  refine CodeJ.loop (ι := Nat × Int) (fun ⟨k, s⟩ => ⟨149, [(1, .ro (ss.map iz)), (2, .ptr 0 0 0), (6, iz e), (9, .val (.int .i64 i)), (12, .val (.int .i64 c)), (13, iz s), (14, .val (.int .i64 k))], [some ⟨2, [psv p], false⟩]⟩)
                    (fun ⟨k, s⟩ => k ≤ ss.length ∧ 0 ≤ s ∧ s ≤ 100000000 * k ∧ s + useAt c (ig ss i) (p.jobs.drop k) (ss.drop k) = useAt c (ig ss i) p.jobs ss) (fun ⟨k, s⟩ => ss.length - k) (0, 0) ?_ ?_ ?_
                  · simp
                  · simp [leS]
                  · rintro ⟨k, s⟩ ⟨hk, hs0, hs1, hu⟩
                    by_cases hkl : k < ss.length
                    · rw [useAt_drop (by omega) hkl] at hu
                      obtain ⟨g1, g2⟩ := hbd k hkl
                      obtain ⟨g3, g4, -⟩ := hp.long k (by omega)
                      have g5 := hp.usl k (by omega)
                      obtain ⟨g6, g7⟩ := hp.use k c (by omega) hcl
                      have g8 := (hp.cap c hcl).2
                      simp (disch := omega) [hkl]
                      refine CodeJ.draw (.qs [0, 1, 2, 3, 4, 5, 6, 7, 8, 9, 10, 11, 12, 13, 14, 15, 16, 17, 18, 19, 20, 21, 22, 23, 24, 25, 26] <| .nil) (by kernel_rfl) (by kernel_rfl) (by simp) ?_
                      simp (disch := omega) [lget_iz, lget_jsv, w64]
                      refine ⟨by omega, by omega, fun c1 => ⟨by omega, by omega, by omega, fun c2 => ⟨by omega, by omega, k + 1, s + ig (jg p.jobs k).uses c, ⟨by omega, by omega, by omega, ?_⟩, by omega, by simp (disch := omega) [leS, hC, w64]⟩, fun c2 => ⟨k + 1, s, ⟨by omega, by omega, by omega, ?_⟩, by omega, by simp (disch := omega) [leS, hC, w64]⟩⟩, fun c1 => ⟨k + 1, s, ⟨by omega, by omega, by omega, ?_⟩, by omega, by simp (disch := omega) [leS, hC, w64]⟩⟩
                      · rw [if_pos ⟨c1, c2⟩] at hu; omega
                      · rw [if_neg (by omega)] at hu; omega
                      · rw [if_neg (by omega)] at hu; omega
                    · obtain rfl : k = ss.length := by omega
                      rw [useAt_end (Nat.le_refl _)] at hu
                      obtain rfl : s = useAt c (ig ss i) p.jobs ss := by omega
                      simp (disch := omega) [lget_iz, w64]
                      refine ⟨by omega, fun h => ?_, fun h => ?_⟩
                      · have e1 : ¬ useAt c (ig ss i) p.jobs ss ≤ ig p.caps c := by omega
                        simp [e1] at hf
                        rw [bad (by rw [hend, hf]; simp)]; simp
                      · have e1 : useAt c (ig ss i) p.jobs ss ≤ ig p.caps c := by omega
                        simp [e1] at hf
                        exact ⟨c + 1, ⟨by omega, hf⟩, by omega, by simp (disch := omega) [leS, hC, w64]⟩
                · obtain rfl : c = p.caps.length := by omega
                  rw [List.drop_length] at hf
                  have s3 : fitsB p ss (ig ss i) = true := by rw [← hf]; rfl
                  have hgood : endB p ss i = true := by rw [hend, s2, s3]; rfl
                  simp (disch := omega) [w64]
                  refine ⟨i + 1, ⟨by omega, fun k hk => ?_⟩, by omega, by simp [leS, hC]⟩
                  rcases Nat.lt_or_ge k i with h | h
                  · exact hall k h
                  · obtain rfl : k = i := by omega
                    exact hgood
        · obtain rfl : i = ss.length := by omega
          simp [endsR_all s0 hall, he]
end Go.Proofs
