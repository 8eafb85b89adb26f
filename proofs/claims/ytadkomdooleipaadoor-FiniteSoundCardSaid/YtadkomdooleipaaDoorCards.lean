/-
  DERIVED. GIVEN WITH THE SEED: THE CARDS: each row of YtadkomdooleipaaDoorRows.lean that lists a variable, with what it lists TIED to the program's text (the seventh form; the later family's looks); each row that meets fmt, with fmt's text TOLD by the authors' own Lean function (tested against real Go, not proved from fmt's source: count such statements apart). THE CARD IS WHAT COUNTS. Prove the row's statement (the work); the ties are given (YtadkomdooleipaaDoorTie.lean); close each card by the builder's one call (the guide's Derived/Test/ToyasCard.lean, 'card_holds'). Laid BY PROGRAM, IN A SANDBOX (cutbox-door.mjs). By AI agents, Wed Nov 11 2026. No macro, syntax, notation, axiom, sorry.
-/
import Derived.Test.YtadkomdooleipaaDoorRows
import GoSem.ClaimSeven
namespace Go.Proofs.YtadkomdooleipaaDoor
namespace Rows

/-- THE TIED CARD OF 'optimalaw3.FiniteNarrow'. -/
def finiteNarrowCard : Claim7 := { stood := { row := finiteNarrowRow, standIns := [], harness := (true, "9dff05891913730dd4c04349c54d77be1a47e139c540bc83676d6587981c1f74"), looks := true }, kinds := [], alts := [], laidByText := true, laidKinds := [.handle, .sentinel, .sentinel, .sentinel, .sentinel, .sentinel, .sentinel, .sentinel, .sentinel, .sentinel, .sentinel], laidTests := true, laidLooks := .later }
def FiniteNarrowCardSaid : Prop := Claim7.holds Tryd.pinned (.plain (OpenSpec.ofChange finiteNarrowSpec)) finiteNarrowCard

/-- THE TIED CARD OF 'optimalaw3.FiniteKeeps'. -/
def finiteKeepsCard : Claim7 := { stood := { row := finiteKeepsRow, standIns := [], harness := (true, "9dff05891913730dd4c04349c54d77be1a47e139c540bc83676d6587981c1f74"), looks := true }, kinds := [], alts := [], laidByText := true, laidKinds := [.handle, .sentinel, .sentinel, .sentinel, .sentinel, .sentinel, .sentinel, .sentinel, .sentinel, .sentinel, .sentinel], laidTests := true, laidLooks := .later }
def FiniteKeepsCardSaid : Prop := Claim7.holds Tryd.pinned (.plain (OpenSpec.ofChange finiteKeepsSpec)) finiteKeepsCard

/-- THE TIED CARD OF 'optimalaw3.FiniteSound'. -/
def finiteSoundCard : Claim7 := { stood := { row := finiteSoundRow, standIns := [], harness := (true, "9dff05891913730dd4c04349c54d77be1a47e139c540bc83676d6587981c1f74"), looks := true }, kinds := [], alts := [], laidByText := true, laidKinds := [.sentinel, .sentinel], laidTests := true, laidLooks := .later }
def FiniteSoundCardSaid : Prop := Claim7.holds Tryd.pinned (.plain (OpenSpec.ofChange finiteSoundSpec)) finiteSoundCard

/-- THE SECOND FORM's CARD OF 'optimalaw3.FiniteNarrow'. -/
def finiteNarrowUptoCard : Claim7 := { stood := { row := finiteNarrowUptoRow, standIns := [], harness := (true, "9dff05891913730dd4c04349c54d77be1a47e139c540bc83676d6587981c1f74"), looks := true }, kinds := [], alts := [], laidByText := true, laidKinds := [.handle, .sentinel, .sentinel, .sentinel, .sentinel, .sentinel, .sentinel, .sentinel, .sentinel, .sentinel, .sentinel], laidTests := true, laidLooks := .later }
def FiniteNarrowUptoCardSaid : Prop := Claim7.holds Tryd.pinned (.plain (OpenSpec.upto finiteNarrowSpec)) finiteNarrowUptoCard

/-- THE SECOND FORM's CARD OF 'optimalaw3.FiniteKeeps'. -/
def finiteKeepsUptoCard : Claim7 := { stood := { row := finiteKeepsUptoRow, standIns := [], harness := (true, "9dff05891913730dd4c04349c54d77be1a47e139c540bc83676d6587981c1f74"), looks := true }, kinds := [], alts := [], laidByText := true, laidKinds := [.handle, .sentinel, .sentinel, .sentinel, .sentinel, .sentinel, .sentinel, .sentinel, .sentinel, .sentinel, .sentinel], laidTests := true, laidLooks := .later }
def FiniteKeepsUptoCardSaid : Prop := Claim7.holds Tryd.pinned (.plain (OpenSpec.upto finiteKeepsSpec)) finiteKeepsUptoCard

/-- THE SECOND FORM's CARD OF 'optimalaw3.FiniteSound'. -/
def finiteSoundUptoCard : Claim7 := { stood := { row := finiteSoundUptoRow, standIns := [], harness := (true, "9dff05891913730dd4c04349c54d77be1a47e139c540bc83676d6587981c1f74"), looks := true }, kinds := [], alts := [], laidByText := true, laidKinds := [.sentinel, .sentinel], laidTests := true, laidLooks := .later }
def FiniteSoundUptoCardSaid : Prop := Claim7.holds Tryd.pinned (.plain (OpenSpec.upto finiteSoundSpec)) finiteSoundUptoCard
end Rows
end Go.Proofs.YtadkomdooleipaaDoor
