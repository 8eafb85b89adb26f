/- Puzzles: the first values that keep one are found by branching. A text of the prover's own; it names no program. -/
import Derived.Test.YtadkomdooleipaaDoorMAf
namespace Go.Fn
open Go Go.Tb Go.Ut
section
variable {q : List Int → Prop} {l : List Int} {n N : Nat}
end
/-! the program's way -/
theorem one_of {l : List Int} (h : l.length = 1) : l = [low l] := by
  match l, h with
  | [x], _ => rfl
/-! the document's way -/
/-- values that keep the puzzle and begin so, one of them given -/
structure Ext (p : Puz) (k at' : Int) (x : List Int) (y : List Int) : Prop where
  len : y.length = p.values.length
  mem : ∀ i, i < p.values.length → gt y i ∈ gt p.values i
  con : ∀ c ∈ p.cons, keptP c (argsOf c y)
  one : ∀ i : Nat, i < p.values.length → (i : Int) = k → gt y i = at'
  pre : ∀ i, i < x.length → gt y i = gt x i
end Go.Fn

