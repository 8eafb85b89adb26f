/- What the package-level variables hold that the code reads. A text of the prover's own. -/
import Derived.Test.YtadkomdooleipaaGreatDoorKSv
namespace Go.Sv
open Go
/-- the variables that hold an error of their own -/
def sens : List Nat := [2, 1, 3, 0, 4, 5, 6, 7, 8, 9]
/-- their type -/
def sent : Nat := 139
def gl (g : Nat) : Option SV := if sens.contains g then some (.sen sent g) else none
end Go.Sv

