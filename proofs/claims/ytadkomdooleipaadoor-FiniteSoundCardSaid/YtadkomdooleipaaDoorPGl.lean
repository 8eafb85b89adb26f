/- What the package-level variables hold that the code reads. A text of the prover's own. -/
import Derived.Test.YtadkomdooleipaaDoorPSv
namespace Go.Sv
open Go
/-- the variables that hold an error of their own -/
def sens : List Nat := [1, 0]
/-- their type -/
def sent : Nat := 144
def gl (g : Nat) : Option SV := if sens.contains g then some (.sen sent g) else none
end Go.Sv

