/- A text of the prover's own. -/
import Derived.Test.YtnimjdcaajmfcaaGreatDoorChecked
import Derived.WalkKit
import Derived.LaidEql
import Derived.Stop.Asserts
import Derived.RowKitTokens
import Derived.Test.YtnimjdcaajmfcaaGreatDoorBPl
import Derived.Test.YtnimjdcaajmfcaaGreatDoorBTy
namespace Go.Proofs
open Go.RowKit Go.Extern.Stop Go.Stop Go.Extern
end Go.Proofs
namespace Go.Proofs
open Go.RowKit Go.Extern.Stop Go.Stop Go.Extern
/-! ### CLOSED FACTS ON THE MODEL's ENTRIES FOR internal/reflectlite, at this program's types: 25: *p.E · 27: **p.E · 23: error · 45: reflectlite's rtype · 1: how many package-level variables the dump has -/
/-! ### THE ENTRIES THAT READ OR WRITE MEMORY: laws with a premise on the cell (after Derived/Lib/ReflectliteSlice.lean's manner: each unfolding a lemma of its own, by rfl) -/
end Go.Proofs
namespace Go.Proofs
open Go.RowKit Go.Extern.Stop Go.Stop Go.Extern
end Go.Proofs
namespace Go.Sv
open Go Go.RowKit
def EOK(w:World):Prop:=(∀g,Cx.contains g=true->∃(a:Addr) (T:TypeId) (z:Nat × Nat) (cs:Array Value) (T':TypeId),w.heap[g]?=some (.cells #[.iface mC (.pointer (some a))] T z)∧w.heap[a.block]?=some (.cells cs T' (0,0))) ∧
 w.cell? ⟨10,0,none⟩=some (.iface 291 (.agg #[.pointer (some ⟨11,33,none⟩)]))
section
variable {P:Program}
end
end Go.Sv
namespace Go.Proofs
open Go.Sv Go Go.RowKit
end Go.Proofs
namespace Go.Proofs
open Go.Sv Go Go.RowKit
def gs(i:Nat):Nat:=[3,4,5,0,1,6,7,8,2,9].getD i 0
end Go.Proofs

