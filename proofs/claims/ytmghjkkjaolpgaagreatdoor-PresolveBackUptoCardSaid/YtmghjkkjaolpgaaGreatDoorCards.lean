/-
  DERIVED. GIVEN WITH THE SEED: THE CARDS: each row of YtmghjkkjaolpgaaGreatDoorRows.lean that lists a variable, with what it lists TIED to the program's text (the seventh form; the later family's looks); each row that meets fmt, with fmt's text TOLD by the authors' own Lean function (tested against real Go, not proved from fmt's source: count such statements apart). THE CARD IS WHAT COUNTS. Prove the row's statement (the work); the ties are given (YtmghjkkjaolpgaaGreatDoorTie.lean); close each card by the builder's one call (the guide's Derived/Test/ToyasCard.lean, 'card_holds'). Laid BY PROGRAM, IN A SANDBOX (cutbox-door.mjs). By AI agents, Wed Nov 11 2026. No macro, syntax, notation, axiom, sorry.
-/
import Derived.Test.YtmghjkkjaolpgaaGreatDoorRows
import GoSem.ClaimSeven
namespace Go.Proofs.YtmghjkkjaolpgaaGreatDoor
namespace Rows

/-- THE TIED CARD OF 'optimalaw2.PresolveTold'. -/
def presolveToldCard : Claim7 := { stood := { row := presolveToldRow, standIns := [], harness := (true, "da4aee684d405c282924a7da16781d5ceb24a1225cd26121166f8d8c19f6e434"), looks := true }, kinds := [], alts := [], laidByText := true, laidKinds := [.handle, .sentinel, .sentinel, .sentinel, .sentinel, .sentinel, .sentinel, .sentinel, .sentinel, .sentinel, .sentinel], laidTests := true, laidLooks := .later }
def PresolveToldCardSaid : Prop := Claim7.holds Tryz.pinned (.plain (OpenSpec.ofChange presolveToldSpec)) presolveToldCard

/-- THE TIED CARD OF 'optimalaw2.PresolveBack'. -/
def presolveBackCard : Claim7 := { stood := { row := presolveBackRow, standIns := [], harness := (true, "da4aee684d405c282924a7da16781d5ceb24a1225cd26121166f8d8c19f6e434"), looks := true }, kinds := [], alts := [], laidByText := true, laidKinds := [.handle, .sentinel, .sentinel, .sentinel, .sentinel, .sentinel, .sentinel, .sentinel, .sentinel, .sentinel, .sentinel], laidTests := true, laidLooks := .later }
def PresolveBackCardSaid : Prop := Claim7.holds Tryz.pinned (.plain (OpenSpec.ofChange presolveBackSpec)) presolveBackCard

/-- THE SECOND FORM's CARD OF 'optimalaw2.PresolveTold'. -/
def presolveToldUptoCard : Claim7 := { stood := { row := presolveToldUptoRow, standIns := [], harness := (true, "da4aee684d405c282924a7da16781d5ceb24a1225cd26121166f8d8c19f6e434"), looks := true }, kinds := [], alts := [], laidByText := true, laidKinds := [.handle, .sentinel, .sentinel, .sentinel, .sentinel, .sentinel, .sentinel, .sentinel, .sentinel, .sentinel, .sentinel], laidTests := true, laidLooks := .later }
def PresolveToldUptoCardSaid : Prop := Claim7.holds Tryz.pinned (.plain (OpenSpec.upto presolveToldSpec)) presolveToldUptoCard

/-- THE SECOND FORM's CARD OF 'optimalaw2.PresolveBack'. -/
def presolveBackUptoCard : Claim7 := { stood := { row := presolveBackUptoRow, standIns := [], harness := (true, "da4aee684d405c282924a7da16781d5ceb24a1225cd26121166f8d8c19f6e434"), looks := true }, kinds := [], alts := [], laidByText := true, laidKinds := [.handle, .sentinel, .sentinel, .sentinel, .sentinel, .sentinel, .sentinel, .sentinel, .sentinel, .sentinel, .sentinel], laidTests := true, laidLooks := .later }
def PresolveBackUptoCardSaid : Prop := Claim7.holds Tryz.pinned (.plain (OpenSpec.upto presolveBackSpec)) presolveBackUptoCard
end Rows
end Go.Proofs.YtmghjkkjaolpgaaGreatDoor
