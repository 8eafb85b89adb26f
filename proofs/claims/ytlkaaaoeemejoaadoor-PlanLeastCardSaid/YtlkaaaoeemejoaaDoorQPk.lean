/- What the law PlanLeast returns. A text of the prover's own. -/
import Derived.Test.YtlkaaaoeemejoaaDoorQPj
namespace Go.Proofs
open Go.Sv Go Go.Pn
theorem twoOK : OK twoJobs := ok_of (by decide)
theorem twoLeast : IsLeast twoJobs 3 [0, 2] := by
  refine ⟨by decide, by decide, ?_, by decide, by decide⟩
  decide
set_option maxRecDepth 20000 in
theorem planLeast_ok (p : Plan) (ss : List Int) (h1 : p.jobs.length ≤ 140737488351232) (h2 : ss.length ≤ 140737488351232) :
    PureE Tryd.prog 4 [psv p, .ro (ss.map iz)] (fun x => x = .val (.bool true)) := by
  refine pureE_enter Tryd.func4 rfl (by simp) (fun C hC hX hE => ?_)
  refine CodeJ.go ?_
  simp
  refine callS jobs_ok (by simp) ?_
  simp
  have s0 := pLeast_ok twoJobs (by decide) (by decide) (by decide) (S := 3) (z := [0, 2]) (fun _ => twoLeast)
  have hv2 : pvalid twoJobs = 0 := by decide
  simp only [leastV, hv2, ne_eq, not_true, if_false] at s0
  refine callS s0 (by simp) ?_
  simp
  refine callF (sameInts_ok [0, 2] [0, 2] (by decide) (by decide)) (by simp) ?_
  simp
  refine callP (few_ok p h1) (by simp) ?_
  rintro x ⟨b, rfl, hb⟩
  cases b with
  | false => simp
  | true =>
    have hf := hb rfl
    have := hf.nj
    have := hf.nc
    simp
    intro c1
    have hS : ∃ S z, OK p → IsLeast p S z := by
      by_cases h : OK p
      · obtain ⟨S, z, h⟩ := is_least h
        exact ⟨S, z, fun _ => h⟩
      · exact ⟨0, [], fun h' => absurd h' h⟩
    obtain ⟨S, z, hS⟩ := hS
    have g0 := pLeast_ok p (by omega) (by omega) (fun i hi => by have := hf.nb i hi; omega) hS
    have g1 := rValid_ok p (by omega) (by omega) (fun i hi => by have := hf.nb i hi; omega)
    have gc := pvalid_le p
    refine callF g0 (by simp) ?_
    by_cases v0 : pvalid p = 0
    · have hp := ok_of v0
      have hL := hS hp
      have hzl := hL.len
      have g2 := rLeast_ok p hp hL
      simp [leastV, v0]
      refine callF g1 (by simp) ?_
      simp [v0]
      refine callF g2 (by simp) ?_
      simp
      refine callF (sameInts_ok z z (by omega) (by omega)) (by simp) ?_
      simp
      intro hl
      have hl' : ss.length = p.jobs.length := by omega
      refine callF (rEnds_ok p hp ss hl') (by simp) ?_
      have hle := ends_least hp hL hl'
      cases hb2 : (endsR p ss).2 with
      | false => simp
      | true =>
        have := hle hb2
        simp
        exact this
    · simp [leastV, v0]
      refine callF g1 (by simp) ?_
      have hpos : 0 < pvalid p := by omega
      simp [hpos]
      refine callE (coded3_ok (c := pvalid p) (by omega) (pvalid p)) hE hX (by simp) (fun y hy => ?_)
      subst hy
      simp
end Go.Proofs
