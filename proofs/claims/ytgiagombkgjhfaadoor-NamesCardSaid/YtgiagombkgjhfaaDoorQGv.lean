/- What the law Names returns. A text of the prover's own. -/
import Derived.Test.YtgiagombkgjhfaaDoorQEp
namespace Go.Proofs
open Go.Sv Go Go.Pl Go.RowKit
set_option maxRecDepth 20000 in
theorem coded_ok {j : Nat} (hj : j < 10) : PureE Tryd.prog 22 [.sen sent (gs j), .val (.int .i64 (j + 1 : Nat))] (fun x => x = .val (.bool true)) := by
  refine pureE_enter Tryd.func22 rfl (by simp) (fun C hC hX hE => ?_)
  refine CodeJ.go ?_
  have cs := codeS_ok hj
  simp
  refine callE cs hE hX (by simp) (fun x hx => ?_)
  subst hx
  simp
set_option maxRecDepth 20000 in
theorem names_ok : PureE Tryd.prog 4 [] (fun x => x = .val (.bool true)) := by
  refine pureE_enter Tryd.func4 rfl (by simp) (fun C hC hX hE => ?_)
  refine CodeJ.go ?_
  have c0 : PureE Tryd.prog 22 [.sen sent 0, .val (.int .i64 1)] (fun x => x = .val (.bool true)) := coded_ok (j := 0) (by omega)
  have c9 : PureE Tryd.prog 22 [.sen sent 1, .val (.int .i64 10)] (fun x => x = .val (.bool true)) := coded_ok (j := 9) (by omega)
  simp
  refine callE c0 hE hX (by simp) (fun x hx => ?_)
  subst hx
  simp
  refine callE c9 hE hX (by simp) (fun x hx => ?_)
  subst hx
  simp
