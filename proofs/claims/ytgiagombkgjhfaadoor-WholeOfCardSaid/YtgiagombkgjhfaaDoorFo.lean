/- What functions of the given program return (int64_ok), for arguments within the bounds that each theorem names. A text of the prover's own. -/
import Derived.Test.YtgiagombkgjhfaaDoorFn
namespace Go.Proofs
open Go.Sv Go Go.Pl
/-- an int64 holds it -/
def fits64 (x : Int) : Prop := -9223372036854775808 ≤ x ∧ x ≤ 9223372036854775807
instance (x : Int) : Decidable (fits64 x) := inferInstanceAs (Decidable (_ ∧ _))
set_option maxRecDepth 20000 in
theorem int64_ok (x : Int) : PureF Tryd.prog 16 [zsv x] (.tup [.val (.int .i64 (if fits64 x then x else 0)), .val (.bool (decide (fits64 x)))]) := by
  refine pure_enter Tryd.func16 rfl (by simp) (fun C hC => ?_)
  by_cases h2 : wid 4294967296 x.natAbs ≤ 2
  · have hw := word_ok (dig 4294967296 x.natAbs) (dig_lt (by omega) _) h2
    rw [val_dig (by omega)] at hw
    have hlt := lt_of_wid2 h2
    have h2' : ¬ (2 : Int) < ((dig 4294967296 x.natAbs).length : Int) := by simp only [wid] at h2; omega
    simp [zsv, h2']
    refine callF hw (by simp) ?_
    by_cases hx : x < 0
    · by_cases hb : 9223372036854775808 < x.natAbs
      · have hf : ¬ fits64 x := by unfold fits64; omega
        have hb' : (9223372036854775808 : Int) < x.natAbs := by omega
        simp [zsv, hx, hf, hb']
      · have hf : fits64 x := by unfold fits64; omega
        have hb' : ¬ (9223372036854775808 : Int) < x.natAbs := by omega
        simp [zsv, hx, hf, hb']
        unfold fits64 at hf
        simp only [IntKind.wrap_i64]; omega
    · by_cases hb : 9223372036854775808 ≤ x.natAbs
      · have hf : ¬ fits64 x := by unfold fits64; omega
        have hb' : (9223372036854775808 : Int) ≤ x.natAbs := by omega
        simp [zsv, hx, hf, hb']
      · have hf : fits64 x := by unfold fits64; omega
        have hb' : ¬ (9223372036854775808 : Int) ≤ x.natAbs := by omega
        simp [zsv, hx, hf, hb']
        unfold fits64 at hf
        simp only [IntKind.wrap_i64]; omega
  · have h2' : (2 : Int) < ((dig 4294967296 x.natAbs).length : Int) := by simp only [wid] at h2; omega
    have hf : ¬ fits64 x := by
      intro hf
      exact h2 (wid2 (by unfold fits64 at hf; omega))
    simp [zsv, h2', hf]
end Go.Proofs
