/- Whether values keep a puzzle: the document's way, and the program's. A text of the prover's own. -/
import Derived.Test.YtadkomdooleipaaDoorMAo
import Derived.Test.YtadkomdooleipaaDoorMAl
namespace Go.Proofs
open Go.Sv Go Go.Tb Go.Pl Go.Ut Go.Fn
end Go.Proofs

