/-
  DERIVED. GIVEN WITH THE SEED: THE CARDS: each row of YtlkaaaoeemejoaaGreatDoorRows.lean that lists a variable, with what it lists TIED to the program's text (the seventh form; the later family's looks); each row that meets fmt, with fmt's text TOLD by the authors' own Lean function (tested against real Go, not proved from fmt's source: count such statements apart). THE CARD IS WHAT COUNTS. Prove the row's statement (the work); the ties are given (YtlkaaaoeemejoaaGreatDoorTie.lean); close each card by the builder's one call (the guide's Derived/Test/ToyasCard.lean, 'card_holds'). Laid BY PROGRAM, IN A SANDBOX (cutbox-door.mjs). By AI agents, Wed Nov 11 2026. No macro, syntax, notation, axiom, sorry.
-/
import Derived.Test.YtlkaaaoeemejoaaGreatDoorRows
import GoSem.ClaimSeven
namespace Go.Proofs.YtlkaaaoeemejoaaGreatDoor
namespace Rows

/-- THE TIED CARD OF 'optimalaw3.PlanChecks'. -/
def planChecksCard : Claim7 := { stood := { row := planChecksRow, standIns := [], harness := (true, "326147e724b02f34fc34bae4eca151d73ce7576ef06ca8812ca675deea71d97e"), looks := true }, kinds := [], alts := [], laidByText := true, laidKinds := [.handle, .sentinel, .sentinel, .sentinel, .sentinel, .sentinel, .sentinel, .sentinel, .sentinel, .sentinel, .sentinel], laidTests := true, laidLooks := .later }
def PlanChecksCardSaid : Prop := Claim7.holds Tryz.pinned (.plain (OpenSpec.ofChange planChecksSpec)) planChecksCard

/-- THE TIED CARD OF 'optimalaw1.MatrixProduct'. -/
def matrixProductCard : Claim7 := { stood := { row := matrixProductRow, standIns := [], harness := (true, "326147e724b02f34fc34bae4eca151d73ce7576ef06ca8812ca675deea71d97e"), looks := true }, kinds := [], alts := [], laidByText := true, laidKinds := [.handle, .sentinel, .sentinel, .sentinel, .sentinel, .sentinel, .sentinel, .sentinel, .sentinel, .sentinel, .sentinel], laidTests := true, laidLooks := .later }
def MatrixProductCardSaid : Prop := Claim7.holds Tryz.pinned (.plain (OpenSpec.ofChange matrixProductSpec)) matrixProductCard

/-- THE TIED CARD OF 'optimalaw3.NetsChecks'. -/
def netsChecksCard : Claim7 := { stood := { row := netsChecksRow, standIns := [], harness := (true, "326147e724b02f34fc34bae4eca151d73ce7576ef06ca8812ca675deea71d97e"), looks := true }, kinds := [], alts := [], laidByText := true, laidKinds := [.handle, .sentinel, .sentinel, .sentinel, .sentinel, .sentinel, .sentinel, .sentinel, .sentinel, .sentinel, .sentinel], laidTests := true, laidLooks := .later }
def NetsChecksCardSaid : Prop := Claim7.holds Tryz.pinned (.plain (OpenSpec.ofChange netsChecksSpec)) netsChecksCard

/-- THE TIED CARD OF 'optimalaw2.WitnessSound'. -/
def witnessSoundCard : Claim7 := { stood := { row := witnessSoundRow, standIns := [], harness := (true, "326147e724b02f34fc34bae4eca151d73ce7576ef06ca8812ca675deea71d97e"), looks := true }, kinds := [], alts := [], laidByText := true, laidKinds := [.sentinel, .sentinel, .sentinel, .sentinel, .sentinel], laidTests := true, laidLooks := .later }
def WitnessSoundCardSaid : Prop := Claim7.holds Tryz.pinned (.plain (OpenSpec.ofChange witnessSoundSpec)) witnessSoundCard

/-- THE TIED CARD OF 'optimalaw1.MatrixReduced'. -/
def matrixReducedCard : Claim7 := { stood := { row := matrixReducedRow, standIns := [], harness := (true, "326147e724b02f34fc34bae4eca151d73ce7576ef06ca8812ca675deea71d97e"), looks := true }, kinds := [], alts := [], laidByText := true, laidKinds := [.handle, .sentinel, .sentinel, .sentinel, .sentinel, .sentinel, .sentinel, .sentinel, .sentinel, .sentinel, .sentinel], laidTests := true, laidLooks := .later }
def MatrixReducedCardSaid : Prop := Claim7.holds Tryz.pinned (.plain (OpenSpec.ofChange matrixReducedSpec)) matrixReducedCard

/-- THE TIED CARD OF 'optimalaw2.WitnessLimit'. -/
def witnessLimitCard : Claim7 := { stood := { row := witnessLimitRow, standIns := [], harness := (true, "326147e724b02f34fc34bae4eca151d73ce7576ef06ca8812ca675deea71d97e"), looks := true }, kinds := [], alts := [], laidByText := true, laidKinds := [.handle, .sentinel, .sentinel, .sentinel, .sentinel, .sentinel, .sentinel, .sentinel, .sentinel, .sentinel, .sentinel], laidTests := true, laidLooks := .later }
def WitnessLimitCardSaid : Prop := Claim7.holds Tryz.pinned (.plain (OpenSpec.ofChange witnessLimitSpec)) witnessLimitCard

/-- THE TIED CARD OF 'optimalaw1.LinearHolds'. -/
def linearHoldsCard : Claim7 := { stood := { row := linearHoldsRow, standIns := [], harness := (true, "326147e724b02f34fc34bae4eca151d73ce7576ef06ca8812ca675deea71d97e"), looks := true }, kinds := [], alts := [], laidByText := true, laidKinds := [.handle, .sentinel, .sentinel, .sentinel, .sentinel, .sentinel, .sentinel, .sentinel, .sentinel, .sentinel, .sentinel], laidTests := true, laidLooks := .later }
def LinearHoldsCardSaid : Prop := Claim7.holds Tryz.pinned (.plain (OpenSpec.ofChange linearHoldsSpec)) linearHoldsCard

/-- THE SECOND FORM's CARD OF 'optimalaw3.PlanChecks'. -/
def planChecksUptoCard : Claim7 := { stood := { row := planChecksUptoRow, standIns := [], harness := (true, "326147e724b02f34fc34bae4eca151d73ce7576ef06ca8812ca675deea71d97e"), looks := true }, kinds := [], alts := [], laidByText := true, laidKinds := [.handle, .sentinel, .sentinel, .sentinel, .sentinel, .sentinel, .sentinel, .sentinel, .sentinel, .sentinel, .sentinel], laidTests := true, laidLooks := .later }
def PlanChecksUptoCardSaid : Prop := Claim7.holds Tryz.pinned (.plain (OpenSpec.upto planChecksSpec)) planChecksUptoCard

/-- THE SECOND FORM's CARD OF 'optimalaw1.MatrixProduct'. -/
def matrixProductUptoCard : Claim7 := { stood := { row := matrixProductUptoRow, standIns := [], harness := (true, "326147e724b02f34fc34bae4eca151d73ce7576ef06ca8812ca675deea71d97e"), looks := true }, kinds := [], alts := [], laidByText := true, laidKinds := [.handle, .sentinel, .sentinel, .sentinel, .sentinel, .sentinel, .sentinel, .sentinel, .sentinel, .sentinel, .sentinel], laidTests := true, laidLooks := .later }
def MatrixProductUptoCardSaid : Prop := Claim7.holds Tryz.pinned (.plain (OpenSpec.upto matrixProductSpec)) matrixProductUptoCard

/-- THE SECOND FORM's CARD OF 'optimalaw3.NetsChecks'. -/
def netsChecksUptoCard : Claim7 := { stood := { row := netsChecksUptoRow, standIns := [], harness := (true, "326147e724b02f34fc34bae4eca151d73ce7576ef06ca8812ca675deea71d97e"), looks := true }, kinds := [], alts := [], laidByText := true, laidKinds := [.handle, .sentinel, .sentinel, .sentinel, .sentinel, .sentinel, .sentinel, .sentinel, .sentinel, .sentinel, .sentinel], laidTests := true, laidLooks := .later }
def NetsChecksUptoCardSaid : Prop := Claim7.holds Tryz.pinned (.plain (OpenSpec.upto netsChecksSpec)) netsChecksUptoCard

/-- THE SECOND FORM's CARD OF 'optimalaw2.WitnessSound'. -/
def witnessSoundUptoCard : Claim7 := { stood := { row := witnessSoundUptoRow, standIns := [], harness := (true, "326147e724b02f34fc34bae4eca151d73ce7576ef06ca8812ca675deea71d97e"), looks := true }, kinds := [], alts := [], laidByText := true, laidKinds := [.sentinel, .sentinel, .sentinel, .sentinel, .sentinel], laidTests := true, laidLooks := .later }
def WitnessSoundUptoCardSaid : Prop := Claim7.holds Tryz.pinned (.plain (OpenSpec.upto witnessSoundSpec)) witnessSoundUptoCard

/-- THE SECOND FORM's CARD OF 'optimalaw1.MatrixReduced'. -/
def matrixReducedUptoCard : Claim7 := { stood := { row := matrixReducedUptoRow, standIns := [], harness := (true, "326147e724b02f34fc34bae4eca151d73ce7576ef06ca8812ca675deea71d97e"), looks := true }, kinds := [], alts := [], laidByText := true, laidKinds := [.handle, .sentinel, .sentinel, .sentinel, .sentinel, .sentinel, .sentinel, .sentinel, .sentinel, .sentinel, .sentinel], laidTests := true, laidLooks := .later }
def MatrixReducedUptoCardSaid : Prop := Claim7.holds Tryz.pinned (.plain (OpenSpec.upto matrixReducedSpec)) matrixReducedUptoCard

/-- THE SECOND FORM's CARD OF 'optimalaw2.WitnessLimit'. -/
def witnessLimitUptoCard : Claim7 := { stood := { row := witnessLimitUptoRow, standIns := [], harness := (true, "326147e724b02f34fc34bae4eca151d73ce7576ef06ca8812ca675deea71d97e"), looks := true }, kinds := [], alts := [], laidByText := true, laidKinds := [.handle, .sentinel, .sentinel, .sentinel, .sentinel, .sentinel, .sentinel, .sentinel, .sentinel, .sentinel, .sentinel], laidTests := true, laidLooks := .later }
def WitnessLimitUptoCardSaid : Prop := Claim7.holds Tryz.pinned (.plain (OpenSpec.upto witnessLimitSpec)) witnessLimitUptoCard

/-- THE SECOND FORM's CARD OF 'optimalaw1.LinearHolds'. -/
def linearHoldsUptoCard : Claim7 := { stood := { row := linearHoldsUptoRow, standIns := [], harness := (true, "326147e724b02f34fc34bae4eca151d73ce7576ef06ca8812ca675deea71d97e"), looks := true }, kinds := [], alts := [], laidByText := true, laidKinds := [.handle, .sentinel, .sentinel, .sentinel, .sentinel, .sentinel, .sentinel, .sentinel, .sentinel, .sentinel, .sentinel], laidTests := true, laidLooks := .later }
def LinearHoldsUptoCardSaid : Prop := Claim7.holds Tryz.pinned (.plain (OpenSpec.upto linearHoldsSpec)) linearHoldsUptoCard
end Rows
end Go.Proofs.YtlkaaaoeemejoaaGreatDoor
