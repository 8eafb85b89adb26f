/-
  DERIVED. GIVEN WITH THE SEED: THE CARDS: each row of YtilpfpephcngbaaGreatDoorRows.lean that lists a variable, with what it lists TIED to the program's text (the seventh form; the later family's looks); each row that meets fmt, with fmt's text TOLD by the authors' own Lean function (tested against real Go, not proved from fmt's source: count such statements apart). THE CARD IS WHAT COUNTS. Prove the row's statement (the work); the ties are given (YtilpfpephcngbaaGreatDoorTie.lean); close each card by the builder's one call (the guide's Derived/Test/ToyasCard.lean, 'card_holds'). Laid BY PROGRAM, IN A SANDBOX (cutbox-door.mjs). By AI agents, Wed Nov 11 2026. No macro, syntax, notation, axiom, sorry.
-/
import Derived.Test.YtilpfpephcngbaaGreatDoorRows
import GoSem.ClaimSeven
namespace Go.Proofs.YtilpfpephcngbaaGreatDoor
namespace Rows

/-- THE TIED CARD OF 'optimalaw1.MatrixReduced'. -/
def matrixReducedCard : Claim7 := { stood := { row := matrixReducedRow, standIns := [], harness := (true, "4811c442e1fd3c62ffafb9cd72d2acdb5a7359565a89ab47aa2b0f23ae2f3442"), looks := true }, kinds := [], alts := [], laidByText := true, laidKinds := [.handle, .sentinel, .sentinel, .sentinel, .sentinel, .sentinel, .sentinel, .sentinel, .sentinel, .sentinel, .sentinel], laidTests := true, laidLooks := .later }
def MatrixReducedCardSaid : Prop := Claim7.holds Tryz.pinned (.plain (OpenSpec.ofChange matrixReducedSpec)) matrixReducedCard

/-- THE TIED CARD OF 'optimalaw1.LinearHolds'. -/
def linearHoldsCard : Claim7 := { stood := { row := linearHoldsRow, standIns := [], harness := (true, "4811c442e1fd3c62ffafb9cd72d2acdb5a7359565a89ab47aa2b0f23ae2f3442"), looks := true }, kinds := [], alts := [], laidByText := true, laidKinds := [.handle, .sentinel, .sentinel, .sentinel, .sentinel, .sentinel, .sentinel, .sentinel, .sentinel, .sentinel, .sentinel], laidTests := true, laidLooks := .later }
def LinearHoldsCardSaid : Prop := Claim7.holds Tryz.pinned (.plain (OpenSpec.ofChange linearHoldsSpec)) linearHoldsCard

/-- THE TIED CARD OF 'optimalaw2.CutsCombine'. -/
def cutsCombineCard : Claim7 := { stood := { row := cutsCombineRow, standIns := [], harness := (true, "4811c442e1fd3c62ffafb9cd72d2acdb5a7359565a89ab47aa2b0f23ae2f3442"), looks := true }, kinds := [], alts := [], laidByText := true, laidKinds := [.handle, .sentinel, .sentinel, .sentinel, .sentinel, .sentinel, .sentinel, .sentinel, .sentinel, .sentinel, .sentinel], laidTests := true, laidLooks := .later }
def CutsCombineCardSaid : Prop := Claim7.holds Tryz.pinned (.plain (OpenSpec.ofChange cutsCombineSpec)) cutsCombineCard

/-- THE TIED CARD OF 'optimalaw2.WitnessChecks'. -/
def witnessChecksCard : Claim7 := { stood := { row := witnessChecksRow, standIns := [], harness := (true, "4811c442e1fd3c62ffafb9cd72d2acdb5a7359565a89ab47aa2b0f23ae2f3442"), looks := true }, kinds := [], alts := [], laidByText := true, laidKinds := [.handle, .sentinel, .sentinel, .sentinel, .sentinel, .sentinel, .sentinel, .sentinel, .sentinel, .sentinel, .sentinel], laidTests := true, laidLooks := .later }
def WitnessChecksCardSaid : Prop := Claim7.holds Tryz.pinned (.plain (OpenSpec.ofChange witnessChecksSpec)) witnessChecksCard

/-- THE TIED CARD OF 'optimalaw2.CutsCover'. -/
def cutsCoverCard : Claim7 := { stood := { row := cutsCoverRow, standIns := [], harness := (true, "4811c442e1fd3c62ffafb9cd72d2acdb5a7359565a89ab47aa2b0f23ae2f3442"), looks := true }, kinds := [], alts := [], laidByText := true, laidKinds := [.handle, .sentinel, .sentinel, .sentinel, .sentinel, .sentinel, .sentinel, .sentinel, .sentinel, .sentinel, .sentinel], laidTests := true, laidLooks := .later }
def CutsCoverCardSaid : Prop := Claim7.holds Tryz.pinned (.plain (OpenSpec.ofChange cutsCoverSpec)) cutsCoverCard

/-- THE TIED CARD OF 'optimalaw3.NetsMost'. -/
def netsMostCard : Claim7 := { stood := { row := netsMostRow, standIns := [], harness := (true, "4811c442e1fd3c62ffafb9cd72d2acdb5a7359565a89ab47aa2b0f23ae2f3442"), looks := true }, kinds := [], alts := [], laidByText := true, laidKinds := [.handle, .sentinel, .sentinel, .sentinel, .sentinel, .sentinel, .sentinel, .sentinel, .sentinel, .sentinel, .sentinel], laidTests := true, laidLooks := .later }
def NetsMostCardSaid : Prop := Claim7.holds Tryz.pinned (.plain (OpenSpec.ofChange netsMostSpec)) netsMostCard

/-- THE TIED CARD OF 'optimalaw3.NetsCheapest'. -/
def netsCheapestCard : Claim7 := { stood := { row := netsCheapestRow, standIns := [], harness := (true, "4811c442e1fd3c62ffafb9cd72d2acdb5a7359565a89ab47aa2b0f23ae2f3442"), looks := true }, kinds := [], alts := [], laidByText := true, laidKinds := [.handle, .sentinel, .sentinel, .sentinel, .sentinel, .sentinel, .sentinel, .sentinel, .sentinel, .sentinel, .sentinel], laidTests := true, laidLooks := .later }
def NetsCheapestCardSaid : Prop := Claim7.holds Tryz.pinned (.plain (OpenSpec.ofChange netsCheapestSpec)) netsCheapestCard

/-- THE TIED CARD OF 'optimalaw1.MatrixFactor'. -/
def matrixFactorCard : Claim7 := { stood := { row := matrixFactorRow, standIns := [], harness := (true, "4811c442e1fd3c62ffafb9cd72d2acdb5a7359565a89ab47aa2b0f23ae2f3442"), looks := true }, kinds := [], alts := [], laidByText := true, laidKinds := [.handle, .sentinel, .sentinel, .sentinel, .sentinel, .sentinel, .sentinel, .sentinel, .sentinel, .sentinel, .sentinel], laidTests := true, laidLooks := .later }
def MatrixFactorCardSaid : Prop := Claim7.holds Tryz.pinned (.plain (OpenSpec.ofChange matrixFactorSpec)) matrixFactorCard

/-- THE SECOND FORM's CARD OF 'optimalaw1.MatrixReduced'. -/
def matrixReducedUptoCard : Claim7 := { stood := { row := matrixReducedUptoRow, standIns := [], harness := (true, "4811c442e1fd3c62ffafb9cd72d2acdb5a7359565a89ab47aa2b0f23ae2f3442"), looks := true }, kinds := [], alts := [], laidByText := true, laidKinds := [.handle, .sentinel, .sentinel, .sentinel, .sentinel, .sentinel, .sentinel, .sentinel, .sentinel, .sentinel, .sentinel], laidTests := true, laidLooks := .later }
def MatrixReducedUptoCardSaid : Prop := Claim7.holds Tryz.pinned (.plain (OpenSpec.upto matrixReducedSpec)) matrixReducedUptoCard

/-- THE SECOND FORM's CARD OF 'optimalaw1.LinearHolds'. -/
def linearHoldsUptoCard : Claim7 := { stood := { row := linearHoldsUptoRow, standIns := [], harness := (true, "4811c442e1fd3c62ffafb9cd72d2acdb5a7359565a89ab47aa2b0f23ae2f3442"), looks := true }, kinds := [], alts := [], laidByText := true, laidKinds := [.handle, .sentinel, .sentinel, .sentinel, .sentinel, .sentinel, .sentinel, .sentinel, .sentinel, .sentinel, .sentinel], laidTests := true, laidLooks := .later }
def LinearHoldsUptoCardSaid : Prop := Claim7.holds Tryz.pinned (.plain (OpenSpec.upto linearHoldsSpec)) linearHoldsUptoCard

/-- THE SECOND FORM's CARD OF 'optimalaw2.CutsCombine'. -/
def cutsCombineUptoCard : Claim7 := { stood := { row := cutsCombineUptoRow, standIns := [], harness := (true, "4811c442e1fd3c62ffafb9cd72d2acdb5a7359565a89ab47aa2b0f23ae2f3442"), looks := true }, kinds := [], alts := [], laidByText := true, laidKinds := [.handle, .sentinel, .sentinel, .sentinel, .sentinel, .sentinel, .sentinel, .sentinel, .sentinel, .sentinel, .sentinel], laidTests := true, laidLooks := .later }
def CutsCombineUptoCardSaid : Prop := Claim7.holds Tryz.pinned (.plain (OpenSpec.upto cutsCombineSpec)) cutsCombineUptoCard

/-- THE SECOND FORM's CARD OF 'optimalaw2.WitnessChecks'. -/
def witnessChecksUptoCard : Claim7 := { stood := { row := witnessChecksUptoRow, standIns := [], harness := (true, "4811c442e1fd3c62ffafb9cd72d2acdb5a7359565a89ab47aa2b0f23ae2f3442"), looks := true }, kinds := [], alts := [], laidByText := true, laidKinds := [.handle, .sentinel, .sentinel, .sentinel, .sentinel, .sentinel, .sentinel, .sentinel, .sentinel, .sentinel, .sentinel], laidTests := true, laidLooks := .later }
def WitnessChecksUptoCardSaid : Prop := Claim7.holds Tryz.pinned (.plain (OpenSpec.upto witnessChecksSpec)) witnessChecksUptoCard

/-- THE SECOND FORM's CARD OF 'optimalaw2.CutsCover'. -/
def cutsCoverUptoCard : Claim7 := { stood := { row := cutsCoverUptoRow, standIns := [], harness := (true, "4811c442e1fd3c62ffafb9cd72d2acdb5a7359565a89ab47aa2b0f23ae2f3442"), looks := true }, kinds := [], alts := [], laidByText := true, laidKinds := [.handle, .sentinel, .sentinel, .sentinel, .sentinel, .sentinel, .sentinel, .sentinel, .sentinel, .sentinel, .sentinel], laidTests := true, laidLooks := .later }
def CutsCoverUptoCardSaid : Prop := Claim7.holds Tryz.pinned (.plain (OpenSpec.upto cutsCoverSpec)) cutsCoverUptoCard

/-- THE SECOND FORM's CARD OF 'optimalaw3.NetsMost'. -/
def netsMostUptoCard : Claim7 := { stood := { row := netsMostUptoRow, standIns := [], harness := (true, "4811c442e1fd3c62ffafb9cd72d2acdb5a7359565a89ab47aa2b0f23ae2f3442"), looks := true }, kinds := [], alts := [], laidByText := true, laidKinds := [.handle, .sentinel, .sentinel, .sentinel, .sentinel, .sentinel, .sentinel, .sentinel, .sentinel, .sentinel, .sentinel], laidTests := true, laidLooks := .later }
def NetsMostUptoCardSaid : Prop := Claim7.holds Tryz.pinned (.plain (OpenSpec.upto netsMostSpec)) netsMostUptoCard

/-- THE SECOND FORM's CARD OF 'optimalaw3.NetsCheapest'. -/
def netsCheapestUptoCard : Claim7 := { stood := { row := netsCheapestUptoRow, standIns := [], harness := (true, "4811c442e1fd3c62ffafb9cd72d2acdb5a7359565a89ab47aa2b0f23ae2f3442"), looks := true }, kinds := [], alts := [], laidByText := true, laidKinds := [.handle, .sentinel, .sentinel, .sentinel, .sentinel, .sentinel, .sentinel, .sentinel, .sentinel, .sentinel, .sentinel], laidTests := true, laidLooks := .later }
def NetsCheapestUptoCardSaid : Prop := Claim7.holds Tryz.pinned (.plain (OpenSpec.upto netsCheapestSpec)) netsCheapestUptoCard

/-- THE SECOND FORM's CARD OF 'optimalaw1.MatrixFactor'. -/
def matrixFactorUptoCard : Claim7 := { stood := { row := matrixFactorUptoRow, standIns := [], harness := (true, "4811c442e1fd3c62ffafb9cd72d2acdb5a7359565a89ab47aa2b0f23ae2f3442"), looks := true }, kinds := [], alts := [], laidByText := true, laidKinds := [.handle, .sentinel, .sentinel, .sentinel, .sentinel, .sentinel, .sentinel, .sentinel, .sentinel, .sentinel, .sentinel], laidTests := true, laidLooks := .later }
def MatrixFactorUptoCardSaid : Prop := Claim7.holds Tryz.pinned (.plain (OpenSpec.upto matrixFactorSpec)) matrixFactorUptoCard
end Rows
end Go.Proofs.YtilpfpephcngbaaGreatDoor
