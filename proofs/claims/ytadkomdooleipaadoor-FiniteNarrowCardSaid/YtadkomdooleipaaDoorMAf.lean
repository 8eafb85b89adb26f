/- Puzzles: the first values that keep one. A text of the prover's own; it names no program. -/
import Derived.Test.YtadkomdooleipaaDoorMAe
namespace Go.Fn
open Go Go.Tb Go.Ut
/-- values out of the lists that keep the puzzle -/
structure Sol (p : Puz) (L : Lf) (x : List Int) : Prop where
  len : x.length = L.length
  mem : ∀ i, i < L.length → gt x i ∈ gt L i
  con : ∀ c ∈ p.cons, keptP c (argsOf c x)
/-- lists of one value each -/
def ones (x : List Int) : Lf := x.map fun v => [v]
end Go.Fn

