/- What the package-level variables hold that the code reads. A text of the prover's own. -/
import Derived.Test.YtilpfpephcngbaaGreatDoorOSv
namespace Go.Sv
open Go
/-- the variables that hold an error of their own -/
def sens : List Nat := [5, 1, 6, 0, 4, 7, 2, 8, 9, 3]
/-- their type -/
def sent : Nat := 388
def gl (g : Nat) : Option SV := if sens.contains g then some (.sen sent g) else none
end Go.Sv

