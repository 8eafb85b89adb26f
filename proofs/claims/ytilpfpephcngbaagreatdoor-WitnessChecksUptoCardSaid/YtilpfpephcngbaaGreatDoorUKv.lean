/- The row that rows make, as plain data: CHVATAL'S CUT: each whole point keeps it. A text of the prover's own. -/
import Derived.Test.YtilpfpephcngbaaGreatDoorUKo
namespace Go.Li
open Go Go.Sv Go.Pl Go.Proofs Go.Tb Go.Ut
/-- what the rows together have at a column -/
def gS (p : Prob) (y : List Rat) (j : Nat) : Nat → Rat
  | 0 => 0
  | i + 1 => gS p y j i + gt y i * entT (gt p.rows i).terms j
theorem gS_eq {p : Prob} {y : List Rat} {j : Nat} (h : j < p.cols.length) : ∀ i, gS p y j i = -(dP (free p) y j i)
  | 0 => by
    simp only [gS, dP]
    rw [free_cost h]; simp
  | i + 1 => by
    simp only [gS, dP]
    rw [gS_eq h i]
    have : (free p).rows = p.rows := rfl
    rw [this]; grind
theorem qw_gS {p : Prob} (hw : ProbW p) {y : List Rat} (hy : Wd 2200 y) (hl : p.rows.length ≤ y.length) {j : Nat} (hj : j < p.cols.length) (i : Nat) (hi : i ≤ p.rows.length) : qw (2200 + 4401 * i) (gS p y j i) := by
  rw [gS_eq hj]
  exact qw_neg (qw_dP (probW_free hw) hy (show (free p).rows.length ≤ y.length from hl) (show j < (free p).cols.length by rw [free_cols]; exact hj) i hi)
/-! terms -/
/-! the law -/
end Go.Li

