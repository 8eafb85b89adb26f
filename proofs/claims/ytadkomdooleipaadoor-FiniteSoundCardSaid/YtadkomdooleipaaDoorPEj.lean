/- What errors.Is returns of an error of errors.New's make and of a Fault of package api that holds one. What errors.As returns at a target of package api's Fault. A text of the prover's own, after a worked proof of the kit. A text of the prover's own. -/
import Derived.Test.YtadkomdooleipaaDoorChecked
import Derived.WalkKit
import Derived.LaidEql
import Derived.Stop.Asserts
import Derived.RowKitTokens
namespace Go.Proofs
open Go.RowKit Go.Extern.Stop Go.Stop Go.Extern

end Go.Proofs
namespace Go.Proofs
open Go.RowKit Go.Extern.Stop Go.Stop Go.Extern
/-! ### CLOSED FACTS ON THE MODEL's ENTRIES FOR internal/reflectlite, at this program's types: 25: *p.E · 27: **p.E · 23: error · 45: reflectlite's rtype · 1: how many package-level variables the dump has -/
/-! ### THE ENTRIES THAT READ OR WRITE MEMORY: laws with a premise on the cell (after Derived/Lib/ReflectliteSlice.lean's manner: each unfolding a lemma of its own, by rfl) -/
end Go.Proofs

