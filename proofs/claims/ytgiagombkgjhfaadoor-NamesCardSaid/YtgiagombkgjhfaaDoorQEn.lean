/- What plain.Code returns of nothing; what the function told of package optimalaw1 and the law RatioRead return. A text of the prover's own. -/
import Derived.Test.YtgiagombkgjhfaaDoorQEm
namespace Go.Proofs
open Go.Sv Go Go.Pl Go.RowKit
set_option maxRecDepth 20000 in
theorem codeN_ok : PureF Tryd.prog 83 [.val .nilIface] (.tup [.val (.int .i64 0), .val (.int .i64 (-1))]) := by
  refine pure_enter Tryd.func83 rfl (by simp) (fun C hC => ?_)
  simp
set_option maxRecDepth 20000 in
theorem told_ok {c a : Nat} (hc : c = 0 ∨ c = 1 ∨ c = 2 ∨ c = 3) : PureE Tryd.prog 23 [errSV c a, fsv c (if c = 0 then -1 else (a : Int))] (fun x => x = .val (.bool true)) := by
  refine pureE_enter Tryd.func23 rfl (by simp [fsv]) (fun C hC hX hE => ?_)
  refine CodeJ.go ?_
  by_cases h0 : c = 0
  · subst h0
    simp [errSV, fsv]
    refine callS codeN_ok (by simp) ?_
    simp
  · have hc' : c = 1 ∨ c = 2 ∨ c = 3 := by omega
    have cf := codeF_ok (a := a) hc'
    simp only [errSV, if_neg h0, fsv] at cf ⊢
    simp
    refine callE cf hE hX (by simp) (fun x hx => ?_)
    subst hx
    simp [h0]
