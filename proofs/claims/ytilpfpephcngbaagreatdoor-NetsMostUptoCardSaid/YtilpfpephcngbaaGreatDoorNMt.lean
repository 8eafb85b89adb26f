/- Texts and tables of texts as plain data. A text of the prover's own. -/
import Derived.Test.YtilpfpephcngbaaGreatDoorNMa
import Derived.Test.YtilpfpephcngbaaGreatDoorNDa
namespace Go.Tb
open Go Go.Sv Go.Pl Go.Proofs
theorem sum_mem {α : Type} {f : α → Nat} : ∀ {l : List α} {x : α}, x ∈ l → f x ≤ (l.map f).sum
  | y :: l, x, h => by
    simp only [List.map_cons, List.sum_cons]
    rcases List.mem_cons.1 h with rfl | h
    · omega
    · have := sum_mem (f := f) h
      omega
theorem sum_len {α : Type} {f : α → Nat} (hf : ∀ x, 1 ≤ f x) : ∀ {l : List α}, l.length ≤ (l.map f).sum
  | [] => by simp
  | y :: l => by
    have := sum_len hf (l := l)
    have := hf y
    simp only [List.map_cons, List.sum_cons, List.length_cons]
    omega
end Go.Tb

