/- What the law RatioDecimal returns. A text of the prover's own. -/
import Derived.Test.YtgiagombkgjhfaaDoorZRc
namespace Go.Proofs
open Go.Sv Go Go.Pl
set_option maxRecDepth 20000 in
theorem ratioDecimal_ok (s : ByteArray) (n : Int) (hs : s.size ≤ 4611686018427387904) (h1 : -9223372036854775808 ≤ n) (h2 : n ≤ 9223372036854775807) :
    PureF Tryd.prog 12 [.val (.string s), .val (.int .i64 n)] (.val (.bool true)) := by
  refine pure_enter Tryd.func12 rfl (by simp) (fun C hC => ?_)
  have fx := qw_qrd s
  have r1 := pQRead_ok s hs
  have q1 := qRead_ok s hs
  unfold outP at r1
  unfold outQ at q1
  generalize (qrd 300 s).1 = x at *
  generalize (qrd 300 s).2.1 = c at *
  generalize (qrd 300 s).2.2 = a at *
  have d1 := qDecimal_ok x n fx h1 h2
  have d2 := pDecimal_ok x n fx h1 h2
  generalize dcTxt (decide (x.num < 0)) (clp n) (dcM (x.num.natAbs * 10 ^ clp n) x.den) = T at *
  by_cases k1 : c = 0
  · subst k1
    rw [if_pos rfl] at r1
    simp
    refine callS r1 (by simp [fsv]) ?_
    simp [fsv]
    intro _
    refine callS q1 (by simp [errSV]) ?_
    simp [errSV]
    refine CodeJ.draw (.qs [0, 1, 2, 3, 4, 6, 7] <| .l 5 [] <| .l 8 [] <| .qs [9, 10, 11] <| .nil) (by kernel_rfl) (by kernel_rfl) (by simp) ?_
    simp
    refine callS d1 (by simp) ?_
    simp
    refine callS d2 (by simp) ?_
    simp
  · rw [if_neg k1] at r1
    simp
    refine callS r1 (by simp [fsv]) ?_
    simp [fsv]
    omega
