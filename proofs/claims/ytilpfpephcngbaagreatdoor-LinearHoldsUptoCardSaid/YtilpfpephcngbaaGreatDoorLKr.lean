/- What the document's reader makes of a fraction's own text. What the law WitnessSound returns. A text of the prover's own. -/
import Derived.Test.YtilpfpephcngbaaGreatDoorLRt
import Derived.Test.YtilpfpephcngbaaGreatDoorLUt
import Derived.Test.YtilpfpephcngbaaGreatDoorLKo
import Derived.Test.YtilpfpephcngbaaGreatDoorLKk
namespace Go.Proofs
open Go.Sv Go Go.Pl
end Go.Proofs
namespace Go.Li
open Go Go.Sv Go.Pl Go.Proofs Go.Tb Go.Ut
end Go.Li
namespace Go.Proofs
open Go.Sv Go Go.Tb Go.Pl Go.Ut Go.Li
end Go.Proofs

