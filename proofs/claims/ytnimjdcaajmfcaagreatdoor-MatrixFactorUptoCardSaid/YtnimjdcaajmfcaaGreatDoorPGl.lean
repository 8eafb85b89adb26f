/- What the package-level variables hold that the code reads. A text of the prover's own. -/
import Derived.Test.YtnimjdcaajmfcaaGreatDoorPSv
namespace Go.Sv
open Go
/-- the variables that hold an error of their own -/
def sens : List Nat := [3, 4, 5, 0, 1, 6, 7, 8, 2, 9]
/-- their type -/
def sent : Nat := 319
def gl (g : Nat) : Option SV := if sens.contains g then some (.sen sent g) else none
end Go.Sv

