/- The program's bound with what is wrong; small functions of the second file of laws. What the law WitnessLimit returns. A text of the prover's own. -/
import Derived.Test.YtilpfpephcngbaaGreatDoorLKi
import Derived.Test.YtilpfpephcngbaaGreatDoorLKd
import Derived.Test.YtilpfpephcngbaaGreatDoorLMt
namespace Go.Li
open Go Go.Sv Go.Pl Go.Proofs Go.Tb Go.Ut
theorem valid_cases (p : Prob) : validC p = 0 ∨ validC p = 2 ∨ validC p = 7 ∨ validC p = 4 := by
  unfold validC; split
  · exact .inr (.inl rfl)
  · split
    · exact .inr (.inr (.inl rfl))
    · split
      · exact .inr (.inr (.inr rfl))
      · exact .inl rfl
theorem valid_le (p : Prob) (h : validC p ≠ 0) : 0 < validC p ∧ validC p ≤ 10 := by
  rcases valid_cases p with e | e | e | e <;> omega
theorem valid_yes {p : Prob} (h : validC p = 0) : p.rows.length ≤ 120 ∧ p.cols.length ≤ 120 ∧ ∀ i, i < p.rows.length → badT p.cols.length (-1) (gt p.rows i).terms = false := by
  unfold validC at h
  split at h
  · cases h
  · split at h
    · cases h
    · split at h
      · cases h
      · rename_i h1 h2 h3
        refine ⟨by omega, by omega, fun i hi => ?_⟩
        cases hb : badT p.cols.length (-1) (gt p.rows i).terms with
        | false => rfl
        | true => exact absurd (badR_at hi hb) h3
theorem few_of {s : SpecT} (h : SmS s) : Few (probOf s) where
  nc := by simp [probOf]; exact h.nc
  nr := by simp [probOf]; exact h.nr
  nt := fun i hi => by
    have hi' : i < s.rows.length := by simpa [probOf] using hi
    unfold probOf
    rw [gt_map _ hi']
    have h1 := (h.rows i hi').cols
    have h2 := zipR_len (gt s.rows i)
    simp only [rowOf, List.length_map]
    omega
theorem qw_bo (s : ByteArray) : qw 2200 (boOf s).at' := by
  unfold boOf; split
  · exact qw_zero _ (by omega)
  · exact qw_qrd _
theorem probW_of (s : SpecT) : ProbW (probOf s) where
  sh := qw_qrd _
  co := fun j hj => by
    have hj' : j < s.cols.length := by simpa [probOf] using hj
    unfold probOf
    rw [gt_map _ hj']
    exact ⟨qw_qrd _, qw_bo _, qw_bo _⟩
  ro := fun i hi => by
    have hi' : i < s.rows.length := by simpa [probOf] using hi
    unfold probOf
    rw [gt_map _ hi']
    exact ⟨qw_bo _, qw_bo _⟩
  te := fun i hi k hk => by
    have hi' : i < s.rows.length := by simpa [probOf] using hi
    unfold probOf at hk ⊢
    rw [gt_map _ hi'] at hk ⊢
    simp only [rowOf, List.length_map] at hk ⊢
    rw [gt_map _ hk]
    exact qw_qrd _
end Go.Li
namespace Go.Proofs
open Go.Sv Go Go.Tb Go.Pl Go.Ut Go.Li
/-! the second file of laws -/
theorem all_no {α : Type} [Inhabited α] {l : List α} {f : α → Bool} {i : Nat} (h : i < l.length) (hf : f (gt l i) = false) : l.all f = false := by
  rw [List.all_eq_false]; exact ⟨_, gt_mem h, by simp [hf]⟩
theorem all_step {α : Type} [Inhabited α] {l : List α} {f : α → Bool} {i : Nat} (h : i < l.length) (ha : (l.take i).all f = true) (hf : f (gt l i) = true) : (l.take (i + 1)).all f = true := by rw [all_take _ h, ha, hf]; rfl
def s0 : ByteArray := ⟨#[48]⟩
def s1 : ByteArray := ⟨#[49]⟩
def s2 : ByteArray := ⟨#[50]⟩
def s3 : ByteArray := ⟨#[51]⟩
end Go.Proofs
namespace Go.Li
open Go Go.Sv Go.Pl Go.Proofs Go.Tb Go.Ut
theorem n0 : num s0 = 0 := by decide +kernel
theorem n1 : num s1 = 1 := by decide +kernel
theorem n2 : num s2 = 2 := by decide +kernel
theorem n3 : num s3 = 3 := by decide +kernel
theorem txt_0 : qtxt 0 = ⟨#[48]⟩ := by decide +kernel
end Go.Li
namespace Go.Proofs
open Go.Sv Go Go.Tb Go.Pl Go.Ut Go.Li
end Go.Proofs

