/- Values that all differ: whether there are some, the document's way. A text of the prover's own. -/
import Derived.Test.YtadkomdooleipaaGreatDoorKAw
namespace Go.Fn
open Go Go.Sv Go.Pl Go.Proofs Go.Tb Go.Ut
end Go.Fn
namespace Go.Proofs
open Go.Sv Go Go.Tb Go.Pl Go.Ut Go.Fn
end Go.Proofs

