/- What errors.As returns of a bare error at a target of package api's Fault. A text of the prover's own, after a worked proof of the kit. -/
import Derived.Test.YtadkomdooleipaaDoorPEj
namespace Go.Proofs
open Go.RowKit Go.Extern.Stop Go.Stop Go.Extern
end Go.Proofs

