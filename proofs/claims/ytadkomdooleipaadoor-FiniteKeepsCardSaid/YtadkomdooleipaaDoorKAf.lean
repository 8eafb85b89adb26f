/- Puzzles: the first values that keep one. A text of the prover's own; it names no program. -/
import Derived.Test.YtadkomdooleipaaDoorKAe
namespace Go.Fn
open Go Go.Tb Go.Ut
/-- values out of the lists that keep the puzzle -/
structure Sol (p : Puz) (L : Lf) (x : List Int) : Prop where
  len : x.length = L.length
  mem : ∀ i, i < L.length → gt x i ∈ gt L i
  con : ∀ c ∈ p.cons, keptP c (argsOf c x)
theorem gt_args {c : Con} {x : List Int} {k : Nat} (hk : k < c.vars.length) : gt (argsOf c x) k = gt x (gt c.vars k).toNat := gt_map _ hk
theorem args_len (c : Con) (x : List Int) : (argsOf c x).length = c.vars.length := by simp [argsOf]
/-- lists of one value each -/
def ones (x : List Int) : Lf := x.map fun v => [v]
end Go.Fn

