/-
  DERIVED. GIVEN WITH THE SEED: THE CARDS: each row of YtnimjdcaajmfcaaGreatDoorRows.lean that lists a variable, with what it lists TIED to the program's text (the seventh form; the later family's looks); each row that meets fmt, with fmt's text TOLD by the authors' own Lean function (tested against real Go, not proved from fmt's source: count such statements apart). THE CARD IS WHAT COUNTS. Prove the row's statement (the work); the ties are given (YtnimjdcaajmfcaaGreatDoorTie.lean); close each card by the builder's one call (the guide's Derived/Test/ToyasCard.lean, 'card_holds'). Laid BY PROGRAM, IN A SANDBOX (cutbox-door.mjs). By AI agents, Wed Nov 11 2026. No macro, syntax, notation, axiom, sorry.
-/
import Derived.Test.YtnimjdcaajmfcaaGreatDoorRows
import GoSem.ClaimSeven
namespace Go.Proofs.YtnimjdcaajmfcaaGreatDoor
namespace Rows

/-- THE TIED CARD OF 'optimalaw1.MatrixFactor'. -/
def matrixFactorCard : Claim7 := { stood := { row := matrixFactorRow, standIns := [], harness := (true, "91c0338c646af8344cd182aee50db203b1205dfc1ce12fc9abb1e6bb90dc187d"), looks := true }, kinds := [], alts := [], laidByText := true, laidKinds := [.handle, .sentinel, .sentinel, .sentinel, .sentinel, .sentinel, .sentinel, .sentinel, .sentinel, .sentinel, .sentinel], laidTests := true, laidLooks := .later }
def MatrixFactorCardSaid : Prop := Claim7.holds Tryz.pinned (.plain (OpenSpec.ofChange matrixFactorSpec)) matrixFactorCard

/-- THE TIED CARD OF 'optimalaw2.SimplexBest'. -/
def simplexBestCard : Claim7 := { stood := { row := simplexBestRow, standIns := [], harness := (true, "91c0338c646af8344cd182aee50db203b1205dfc1ce12fc9abb1e6bb90dc187d"), looks := true }, kinds := [], alts := [], laidByText := true, laidKinds := [.sentinel, .sentinel, .sentinel, .sentinel, .sentinel], laidTests := true, laidLooks := .later }
def SimplexBestCardSaid : Prop := Claim7.holds Tryz.pinned (.plain (OpenSpec.ofChange simplexBestSpec)) simplexBestCard

/-- THE TIED CARD OF 'optimalaw2.SimplexFrame'. -/
def simplexFrameCard : Claim7 := { stood := { row := simplexFrameRow, standIns := [], harness := (true, "91c0338c646af8344cd182aee50db203b1205dfc1ce12fc9abb1e6bb90dc187d"), looks := true }, kinds := [], alts := [], laidByText := true, laidKinds := [.handle, .sentinel, .sentinel, .sentinel, .sentinel, .sentinel, .sentinel, .sentinel, .sentinel, .sentinel, .sentinel], laidTests := true, laidLooks := .later }
def SimplexFrameCardSaid : Prop := Claim7.holds Tryz.pinned (.plain (OpenSpec.ofChange simplexFrameSpec)) simplexFrameCard

/-- THE TIED CARD OF 'optimalaw2.SimplexSolves'. -/
def simplexSolvesCard : Claim7 := { stood := { row := simplexSolvesRow, standIns := [], harness := (true, "91c0338c646af8344cd182aee50db203b1205dfc1ce12fc9abb1e6bb90dc187d"), looks := true }, kinds := [], alts := [], laidByText := true, laidKinds := [.handle, .sentinel, .sentinel, .sentinel, .sentinel, .sentinel, .sentinel, .sentinel, .sentinel, .sentinel, .sentinel], laidTests := true, laidLooks := .later }
def SimplexSolvesCardSaid : Prop := Claim7.holds Tryz.pinned (.plain (OpenSpec.ofChange simplexSolvesSpec)) simplexSolvesCard

/-- THE SECOND FORM's CARD OF 'optimalaw1.MatrixFactor'. -/
def matrixFactorUptoCard : Claim7 := { stood := { row := matrixFactorUptoRow, standIns := [], harness := (true, "91c0338c646af8344cd182aee50db203b1205dfc1ce12fc9abb1e6bb90dc187d"), looks := true }, kinds := [], alts := [], laidByText := true, laidKinds := [.handle, .sentinel, .sentinel, .sentinel, .sentinel, .sentinel, .sentinel, .sentinel, .sentinel, .sentinel, .sentinel], laidTests := true, laidLooks := .later }
def MatrixFactorUptoCardSaid : Prop := Claim7.holds Tryz.pinned (.plain (OpenSpec.upto matrixFactorSpec)) matrixFactorUptoCard

/-- THE SECOND FORM's CARD OF 'optimalaw2.SimplexBest'. -/
def simplexBestUptoCard : Claim7 := { stood := { row := simplexBestUptoRow, standIns := [], harness := (true, "91c0338c646af8344cd182aee50db203b1205dfc1ce12fc9abb1e6bb90dc187d"), looks := true }, kinds := [], alts := [], laidByText := true, laidKinds := [.sentinel, .sentinel, .sentinel, .sentinel, .sentinel], laidTests := true, laidLooks := .later }
def SimplexBestUptoCardSaid : Prop := Claim7.holds Tryz.pinned (.plain (OpenSpec.upto simplexBestSpec)) simplexBestUptoCard

/-- THE SECOND FORM's CARD OF 'optimalaw2.SimplexFrame'. -/
def simplexFrameUptoCard : Claim7 := { stood := { row := simplexFrameUptoRow, standIns := [], harness := (true, "91c0338c646af8344cd182aee50db203b1205dfc1ce12fc9abb1e6bb90dc187d"), looks := true }, kinds := [], alts := [], laidByText := true, laidKinds := [.handle, .sentinel, .sentinel, .sentinel, .sentinel, .sentinel, .sentinel, .sentinel, .sentinel, .sentinel, .sentinel], laidTests := true, laidLooks := .later }
def SimplexFrameUptoCardSaid : Prop := Claim7.holds Tryz.pinned (.plain (OpenSpec.upto simplexFrameSpec)) simplexFrameUptoCard

/-- THE SECOND FORM's CARD OF 'optimalaw2.SimplexSolves'. -/
def simplexSolvesUptoCard : Claim7 := { stood := { row := simplexSolvesUptoRow, standIns := [], harness := (true, "91c0338c646af8344cd182aee50db203b1205dfc1ce12fc9abb1e6bb90dc187d"), looks := true }, kinds := [], alts := [], laidByText := true, laidKinds := [.handle, .sentinel, .sentinel, .sentinel, .sentinel, .sentinel, .sentinel, .sentinel, .sentinel, .sentinel, .sentinel], laidTests := true, laidLooks := .later }
def SimplexSolvesUptoCardSaid : Prop := Claim7.holds Tryz.pinned (.plain (OpenSpec.upto simplexSolvesSpec)) simplexSolvesUptoCard
end Rows
end Go.Proofs.YtnimjdcaajmfcaaGreatDoor
