/- What a constraint lets stand: the document's ways of asking tables and shares. What a constraint lets stand: the document's way of asking shares. A text of the prover's own. -/
import Derived.Test.YtadkomdooleipaaGreatDoorKAt
namespace Go.Fn
open Go Go.Sv Go.Pl Go.Proofs Go.Tb Go.Ut
end Go.Fn
namespace Go.Proofs
open Go.Sv Go Go.Tb Go.Pl Go.Ut Go.Fn
end Go.Proofs
namespace Go.Proofs
open Go.Sv Go Go.Tb Go.Pl Go.Ut Go.Fn
end Go.Proofs

