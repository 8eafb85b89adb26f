/- What the law WitnessLimit returns. A text of the prover's own. -/
import Derived.Test.YtilpfpephcngbaaGreatDoorUKj
import Derived.Test.YtilpfpephcngbaaGreatDoorUMt
namespace Go.Li
open Go Go.Sv Go.Pl Go.Proofs Go.Tb Go.Ut
theorem n0 : num s0 = 0 := by decide +kernel
theorem n1 : num s1 = 1 := by decide +kernel
theorem n2 : num s2 = 2 := by decide +kernel
theorem n3 : num s3 = 3 := by decide +kernel
theorem n4 : num s4 = 4 := by decide +kernel
theorem n5 : num s5 = 5 := by decide +kernel
theorem n6 : num s6 = 6 := by decide +kernel
def P1 : Prob := ⟨true, 0, [⟨sx, false, ⟨true, 0⟩, ⟨true, 4⟩, 3⟩, ⟨sy, false, ⟨true, 0⟩, ⟨true, 4⟩, 5⟩], [⟨sone, [⟨0, 1⟩, ⟨1, 2⟩], ⟨false, 0⟩, ⟨true, 6⟩⟩]⟩
theorem prob_first : probOf firstS = P1 := by
  have e : ∀ s : ByteArray, isNo s = false → boOf s = ⟨true, num s⟩ := fun s h => by unfold boOf; rw [h]; rfl
  have e' : boOf e0 = ⟨false, 0⟩ := rfl
  simp [probOf, firstS, P1, colOf, rowOf, zipR, termOf, n0, n1, n2, n3, n4, n5, n6, e s0 (by decide), e s3 (by decide), e s4 (by decide), e s5 (by decide), e s6 (by decide), e']
theorem ok_first : okS firstS = true := by decide +kernel
theorem few_first : fewB firstS = true := by decide +kernel
theorem valid_first : validC P1 = 0 := by unfold validC; decide +kernel
theorem sm_first : SmS firstS where
  shift := by decide
  nc := by decide
  nr := by decide
  cols := fun i hi => by
    match i, hi with
    | 0, _ => exact ⟨by decide, by decide, by decide, by decide⟩
    | 1, _ => exact ⟨by decide, by decide, by decide, by decide⟩
  rows := fun i hi => by
    match i, hi with
    | 0, _ => exact ⟨by decide, by decide, by decide, by decide, ⟨by decide, fun x hx => by
        have hx' : x = s1 ∨ x = s2 := by simpa [firstS, gt] using hx
        rcases hx' with e | e <;> rw [e] <;> decide⟩⟩
end Go.Li
namespace Go.Proofs
open Go.Sv Go Go.Tb Go.Pl Go.Ut Go.Li
end Go.Proofs

