/-
  DERIVED. GIVEN WITH THE SEED: THE CARDS: each row of YtadkomdooleipaaGreatDoorRows.lean that lists a variable, with what it lists TIED to the program's text (the seventh form; the later family's looks); each row that meets fmt, with fmt's text TOLD by the authors' own Lean function (tested against real Go, not proved from fmt's source: count such statements apart). THE CARD IS WHAT COUNTS. Prove the row's statement (the work); the ties are given (YtadkomdooleipaaGreatDoorTie.lean); close each card by the builder's one call (the guide's Derived/Test/ToyasCard.lean, 'card_holds'). Laid BY PROGRAM, IN A SANDBOX (cutbox-door.mjs). By AI agents, Wed Nov 11 2026. No macro, syntax, notation, axiom, sorry.
-/
import Derived.Test.YtadkomdooleipaaGreatDoorRows
import GoSem.ClaimSeven
namespace Go.Proofs.YtadkomdooleipaaGreatDoor
namespace Rows

/-- THE TIED CARD OF 'optimalaw3.FiniteFirst'. -/
def finiteFirstCard : Claim7 := { stood := { row := finiteFirstRow, standIns := [], harness := (true, "806463ee161a7ad8e470a10b3a8a70df6fb981df782dd8200c372ea0da8415ba"), looks := true }, kinds := [], alts := [], laidByText := true, laidKinds := [.handle, .sentinel, .sentinel, .sentinel, .sentinel, .sentinel, .sentinel, .sentinel, .sentinel, .sentinel, .sentinel], laidTests := true, laidLooks := .later }
def FiniteFirstCardSaid : Prop := Claim7.holds Tryz.pinned (.plain (OpenSpec.ofChange finiteFirstSpec)) finiteFirstCard

/-- THE SECOND FORM's CARD OF 'optimalaw3.FiniteFirst'. -/
def finiteFirstUptoCard : Claim7 := { stood := { row := finiteFirstUptoRow, standIns := [], harness := (true, "806463ee161a7ad8e470a10b3a8a70df6fb981df782dd8200c372ea0da8415ba"), looks := true }, kinds := [], alts := [], laidByText := true, laidKinds := [.handle, .sentinel, .sentinel, .sentinel, .sentinel, .sentinel, .sentinel, .sentinel, .sentinel, .sentinel, .sentinel], laidTests := true, laidLooks := .later }
def FiniteFirstUptoCardSaid : Prop := Claim7.holds Tryz.pinned (.plain (OpenSpec.upto finiteFirstSpec)) finiteFirstUptoCard
end Rows
end Go.Proofs.YtadkomdooleipaaGreatDoor
