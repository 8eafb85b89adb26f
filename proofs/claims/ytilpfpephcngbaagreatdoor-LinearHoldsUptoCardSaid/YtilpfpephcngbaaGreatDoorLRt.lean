/- What Read makes of a number's own text. A text of the prover's own. -/
import Derived.Test.YtilpfpephcngbaaGreatDoorLQn
namespace Go.Proofs
open Go.Sv Go Go.Pl
