/- What the document's reader makes of a fraction's own text. What the law WitnessSound returns. A text of the prover's own. -/
import Derived.Test.YtilpfpephcngbaaGreatDoorURt
import Derived.Test.YtilpfpephcngbaaGreatDoorUUt
import Derived.Test.YtilpfpephcngbaaGreatDoorUKo
import Derived.Test.YtilpfpephcngbaaGreatDoorUKk
namespace Go.Proofs
open Go.Sv Go Go.Pl
end Go.Proofs
namespace Go.Li
open Go Go.Sv Go.Pl Go.Proofs Go.Tb Go.Ut
def shClm (c : ClmT) : Bool := shortB c.x && shortB c.y && shortB c.ray && decide (c.value.size ≤ 24)
def s52 : ByteArray := ⟨#[53, 47, 50]⟩
def s17 : ByteArray := ⟨#[49, 55]⟩
def goodT : ClmT := ⟨1, [s4, s1], [s52], [], s17⟩
theorem n52 : num s52 = 5 / 2 := by decide +kernel
theorem n17 : num s17 = 17 := by decide +kernel
theorem good_of : clOf goodT = ⟨1, [4, 1], [5 / 2], [], 17⟩ := by
  have h1 : numR [s4, s1] = [4, 1] := by
    unfold numR; rw [if_pos (by decide +kernel)]; simp [nums, n4, n1]
  have h2 : numR [s52] = [5 / 2] := by
    unfold numR; rw [if_pos (by decide +kernel)]; simp [nums, n52]
  have h3 : numR [] = [] := by unfold numR; split <;> rfl
  unfold clOf goodT
  simp only [h1, h2, h3, n17]
theorem good_ok : okCl goodT = true := by decide +kernel
theorem good_chk : chkB P1 (clOf goodT) = true := by rw [good_of]; decide +kernel
theorem sm_good : SmCl goodT := by
  have e : ∀ x ∈ [s4, s1], x.size ≤ 1048576 := fun x hx => by
    simp only [List.mem_cons, List.not_mem_nil, or_false] at hx
    rcases hx with e | e <;> rw [e] <;> decide
  have e2 : ∀ x ∈ [s52], x.size ≤ 1048576 := fun x hx => by
    simp only [List.mem_cons, List.not_mem_nil, or_false] at hx
    rw [hx]; decide
  exact ⟨⟨by decide, e⟩, ⟨by decide, e2⟩, ⟨by decide, fun x hx => by cases hx⟩, by decide⟩
end Go.Li
namespace Go.Proofs
open Go.Sv Go Go.Tb Go.Pl Go.Ut Go.Li
theorem claims_ok (c : ClmT) (h : SmCl c) : PureF Tryz.prog 48 [clT c] (bov (shClm c)) := by
  have hv := h.v
  refine pure_enter Tryz.func48 rfl (by simp) (fun C hC => ?_)
  simp
  refine callS (shorts2_ok c.x h.x.n (fun i hi => h.x.s _ (gt_mem hi))) (by simp) ?_
  simp
  refine callS (shorts2_ok c.y h.y.n (fun i hi => h.y.s _ (gt_mem hi))) (by simp) ?_
  simp
  refine callS (shorts2_ok c.ray h.r.n (fun i hi => h.r.s _ (gt_mem hi))) (by simp) ?_
  simp
  repeat' (apply And.intro <;> intro _)
  all_goals first | (simp [shClm, *]; done) | (simp [shClm, *]; omega)
end Go.Proofs

