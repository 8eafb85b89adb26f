/- Contracts that also use what the listed errors' own blocks are. errors.Is and errors.As of a bare error, by contract; plain.Code of one, and of nothing. A text of the prover's own. -/
import Derived.Test.YtadkomdooleipaaDoorPPl
import Derived.Test.YtadkomdooleipaaDoorPVz
import Derived.Test.YtadkomdooleipaaDoorPTy
import Derived.Test.YtadkomdooleipaaDoorPEj
import Derived.Test.YtadkomdooleipaaDoorPEo
namespace Go.Sv
open Go Go.RowKit
/-- each listed error stands in a block of its own that is not kept from writing; errors.errorType holds the type error -/
def EOK (w : World) : Prop := (∀ g, sens.contains g = true → ∃ (a : Addr) (T : TypeId) (z : Nat × Nat) (cs : Array Value) (T' : TypeId), w.heap[g]? = some (.cells #[.iface sent (.pointer (some a))] T z) ∧ w.heap[a.block]? = some (.cells cs T' (0, 0))) ∧
  w.cell? ⟨10, 0, none⟩ = some (.iface 106 (.agg #[.pointer (some ⟨11, 29, none⟩)]))
theorem EOK.frame {w w' : World} (h : EOK w) (hb : ∀ b, b < w.heap.size → w'.heap[b]? = w.heap[b]?) : EOK w' := by
  have lt : ∀ (b : Nat) x, w.heap[b]? = some x → b < w.heap.size := fun b x hx => (Array.getElem?_eq_some_iff.1 hx).1
  refine ⟨fun g hg => ?_, ?_⟩
  · obtain ⟨a, T, z, cs, T', h1, h2⟩ := h.1 g hg
    exact ⟨a, T, z, cs, T', by rw [hb g (lt g _ h1)]; exact h1, by rw [hb _ (lt _ _ h2)]; exact h2⟩
  · have h2 := h.2
    have hlt : 10 < w.heap.size := by
      rcases Nat.lt_or_ge 10 w.heap.size with h | h
      · exact h
      · simp [World.cell?, Array.getElem?_eq_none h] at h2
    unfold World.cell? at h2 ⊢
    rw [hb 10 hlt]
    exact h2
section
variable {P : Program}
end
end Go.Sv
namespace Go.Proofs
open Go.Sv Go Go.RowKit
end Go.Proofs
namespace Go.Proofs
open Go.Sv Go Go.RowKit
def gs (i : Nat) : Nat := [2, 1, 3, 0, 4, 5, 6, 7, 8, 9].getD i 0
