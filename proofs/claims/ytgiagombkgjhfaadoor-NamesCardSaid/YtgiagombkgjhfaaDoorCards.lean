/-
  DERIVED. GIVEN WITH THE SEED: THE CARDS: each row of YtgiagombkgjhfaaDoorRows.lean that lists a variable, with what it lists TIED to the program's text (the seventh form; the later family's looks); each row that meets fmt, with fmt's text TOLD by the authors' own Lean function (tested against real Go, not proved from fmt's source: count such statements apart). THE CARD IS WHAT COUNTS. Prove the row's statement (the work); the ties are given (YtgiagombkgjhfaaDoorTie.lean); close each card by the builder's one call (the guide's Derived/Test/ToyasCard.lean, 'card_holds'). Laid BY PROGRAM, IN A SANDBOX (cutbox-door.mjs). By AI agents, Wed Nov 11 2026. No macro, syntax, notation, axiom, sorry.
-/
import Derived.Test.YtgiagombkgjhfaaDoorRows
import GoSem.ClaimSeven
namespace Go.Proofs.YtgiagombkgjhfaaDoor
namespace Rows

/-- THE TIED CARD OF 'optimalaw1.WholeOf'. -/
def wholeOfCard : Claim7 := { stood := { row := wholeOfRow, standIns := [], harness := (true, "178d0d9df88cc8c131382326520d4352c32406308df1fd9bcb55e074b9abfaa2"), looks := true }, kinds := [], alts := [], laidByText := true, laidKinds := [.sentinel, .sentinel], laidTests := true, laidLooks := .later }
def WholeOfCardSaid : Prop := Claim7.holds Tryd.pinned (.plain (OpenSpec.ofChange wholeOfSpec)) wholeOfCard

/-- THE TIED CARD OF 'optimalaw1.Names'. -/
def namesCard : Claim7 := { stood := { row := namesRow, standIns := [], harness := (true, "178d0d9df88cc8c131382326520d4352c32406308df1fd9bcb55e074b9abfaa2"), looks := true }, kinds := [], alts := [], laidByText := true, laidKinds := [.handle, .sentinel, .sentinel, .sentinel, .sentinel, .sentinel, .sentinel, .sentinel, .sentinel, .sentinel, .sentinel], laidTests := true, laidLooks := .later }
def NamesCardSaid : Prop := Claim7.holds Tryd.pinned (.plain (OpenSpec.ofChange namesSpec)) namesCard

/-- THE TIED CARD OF 'optimalaw1.WholeRead'. -/
def wholeReadCard : Claim7 := { stood := { row := wholeReadRow, standIns := [], harness := (true, "178d0d9df88cc8c131382326520d4352c32406308df1fd9bcb55e074b9abfaa2"), looks := true }, kinds := [], alts := [], laidByText := true, laidKinds := [.handle, .sentinel, .sentinel, .sentinel, .sentinel, .sentinel, .sentinel, .sentinel, .sentinel, .sentinel, .sentinel], laidTests := true, laidLooks := .later }
def WholeReadCardSaid : Prop := Claim7.holds Tryd.pinned (.plain (OpenSpec.ofChange wholeReadSpec)) wholeReadCard

/-- THE TIED CARD OF 'optimalaw1.WholeRing'. -/
def wholeRingCard : Claim7 := { stood := { row := wholeRingRow, standIns := [], harness := (true, "178d0d9df88cc8c131382326520d4352c32406308df1fd9bcb55e074b9abfaa2"), looks := true }, kinds := [], alts := [], laidByText := true, laidKinds := [.sentinel, .sentinel], laidTests := true, laidLooks := .later }
def WholeRingCardSaid : Prop := Claim7.holds Tryd.pinned (.plain (OpenSpec.ofChange wholeRingSpec)) wholeRingCard

/-- THE TIED CARD OF 'optimalaw1.WholeSums'. -/
def wholeSumsCard : Claim7 := { stood := { row := wholeSumsRow, standIns := [], harness := (true, "178d0d9df88cc8c131382326520d4352c32406308df1fd9bcb55e074b9abfaa2"), looks := true }, kinds := [], alts := [], laidByText := true, laidKinds := [.sentinel, .sentinel], laidTests := true, laidLooks := .later }
def WholeSumsCardSaid : Prop := Claim7.holds Tryd.pinned (.plain (OpenSpec.ofChange wholeSumsSpec)) wholeSumsCard

/-- THE TIED CARD OF 'optimalaw1.RatioOf'. -/
def ratioOfCard : Claim7 := { stood := { row := ratioOfRow, standIns := [], harness := (true, "178d0d9df88cc8c131382326520d4352c32406308df1fd9bcb55e074b9abfaa2"), looks := true }, kinds := [], alts := [], laidByText := true, laidKinds := [.sentinel, .sentinel], laidTests := true, laidLooks := .later }
def RatioOfCardSaid : Prop := Claim7.holds Tryd.pinned (.plain (OpenSpec.ofChange ratioOfSpec)) ratioOfCard

/-- THE TIED CARD OF 'optimalaw1.RatioSums'. -/
def ratioSumsCard : Claim7 := { stood := { row := ratioSumsRow, standIns := [], harness := (true, "178d0d9df88cc8c131382326520d4352c32406308df1fd9bcb55e074b9abfaa2"), looks := true }, kinds := [], alts := [], laidByText := true, laidKinds := [.sentinel, .sentinel, .sentinel], laidTests := true, laidLooks := .later }
def RatioSumsCardSaid : Prop := Claim7.holds Tryd.pinned (.plain (OpenSpec.ofChange ratioSumsSpec)) ratioSumsCard

/-- THE TIED CARD OF 'optimalaw1.RatioSimplest'. -/
def ratioSimplestCard : Claim7 := { stood := { row := ratioSimplestRow, standIns := [], harness := (true, "178d0d9df88cc8c131382326520d4352c32406308df1fd9bcb55e074b9abfaa2"), looks := true }, kinds := [], alts := [], laidByText := true, laidKinds := [.sentinel, .sentinel, .sentinel], laidTests := true, laidLooks := .later }
def RatioSimplestCardSaid : Prop := Claim7.holds Tryd.pinned (.plain (OpenSpec.ofChange ratioSimplestSpec)) ratioSimplestCard

/-- THE TIED CARD OF 'optimalaw1.RatioBetween'. -/
def ratioBetweenCard : Claim7 := { stood := { row := ratioBetweenRow, standIns := [], harness := (true, "178d0d9df88cc8c131382326520d4352c32406308df1fd9bcb55e074b9abfaa2"), looks := true }, kinds := [], alts := [], laidByText := true, laidKinds := [.sentinel, .sentinel, .sentinel], laidTests := true, laidLooks := .later }
def RatioBetweenCardSaid : Prop := Claim7.holds Tryd.pinned (.plain (OpenSpec.ofChange ratioBetweenSpec)) ratioBetweenCard

/-- THE TIED CARD OF 'optimalaw1.RatioDecimal'. -/
def ratioDecimalCard : Claim7 := { stood := { row := ratioDecimalRow, standIns := [], harness := (true, "178d0d9df88cc8c131382326520d4352c32406308df1fd9bcb55e074b9abfaa2"), looks := true }, kinds := [], alts := [], laidByText := true, laidKinds := [.sentinel, .sentinel, .sentinel], laidTests := true, laidLooks := .later }
def RatioDecimalCardSaid : Prop := Claim7.holds Tryd.pinned (.plain (OpenSpec.ofChange ratioDecimalSpec)) ratioDecimalCard

/-- THE TIED CARD OF 'optimalaw1.RatioRead'. -/
def ratioReadCard : Claim7 := { stood := { row := ratioReadRow, standIns := [], harness := (true, "178d0d9df88cc8c131382326520d4352c32406308df1fd9bcb55e074b9abfaa2"), looks := true }, kinds := [], alts := [], laidByText := true, laidKinds := [.handle, .sentinel, .sentinel, .sentinel, .sentinel, .sentinel, .sentinel, .sentinel, .sentinel, .sentinel, .sentinel], laidTests := true, laidLooks := .later }
def RatioReadCardSaid : Prop := Claim7.holds Tryd.pinned (.plain (OpenSpec.ofChange ratioReadSpec)) ratioReadCard

/-- THE SECOND FORM's CARD OF 'optimalaw1.WholeOf'. -/
def wholeOfUptoCard : Claim7 := { stood := { row := wholeOfUptoRow, standIns := [], harness := (true, "178d0d9df88cc8c131382326520d4352c32406308df1fd9bcb55e074b9abfaa2"), looks := true }, kinds := [], alts := [], laidByText := true, laidKinds := [.sentinel, .sentinel], laidTests := true, laidLooks := .later }
def WholeOfUptoCardSaid : Prop := Claim7.holds Tryd.pinned (.plain (OpenSpec.upto wholeOfSpec)) wholeOfUptoCard

/-- THE SECOND FORM's CARD OF 'optimalaw1.Names'. -/
def namesUptoCard : Claim7 := { stood := { row := namesUptoRow, standIns := [], harness := (true, "178d0d9df88cc8c131382326520d4352c32406308df1fd9bcb55e074b9abfaa2"), looks := true }, kinds := [], alts := [], laidByText := true, laidKinds := [.handle, .sentinel, .sentinel, .sentinel, .sentinel, .sentinel, .sentinel, .sentinel, .sentinel, .sentinel, .sentinel], laidTests := true, laidLooks := .later }
def NamesUptoCardSaid : Prop := Claim7.holds Tryd.pinned (.plain (OpenSpec.upto namesSpec)) namesUptoCard

/-- THE SECOND FORM's CARD OF 'optimalaw1.WholeRead'. -/
def wholeReadUptoCard : Claim7 := { stood := { row := wholeReadUptoRow, standIns := [], harness := (true, "178d0d9df88cc8c131382326520d4352c32406308df1fd9bcb55e074b9abfaa2"), looks := true }, kinds := [], alts := [], laidByText := true, laidKinds := [.handle, .sentinel, .sentinel, .sentinel, .sentinel, .sentinel, .sentinel, .sentinel, .sentinel, .sentinel, .sentinel], laidTests := true, laidLooks := .later }
def WholeReadUptoCardSaid : Prop := Claim7.holds Tryd.pinned (.plain (OpenSpec.upto wholeReadSpec)) wholeReadUptoCard

/-- THE SECOND FORM's CARD OF 'optimalaw1.WholeRing'. -/
def wholeRingUptoCard : Claim7 := { stood := { row := wholeRingUptoRow, standIns := [], harness := (true, "178d0d9df88cc8c131382326520d4352c32406308df1fd9bcb55e074b9abfaa2"), looks := true }, kinds := [], alts := [], laidByText := true, laidKinds := [.sentinel, .sentinel], laidTests := true, laidLooks := .later }
def WholeRingUptoCardSaid : Prop := Claim7.holds Tryd.pinned (.plain (OpenSpec.upto wholeRingSpec)) wholeRingUptoCard

/-- THE SECOND FORM's CARD OF 'optimalaw1.WholeSums'. -/
def wholeSumsUptoCard : Claim7 := { stood := { row := wholeSumsUptoRow, standIns := [], harness := (true, "178d0d9df88cc8c131382326520d4352c32406308df1fd9bcb55e074b9abfaa2"), looks := true }, kinds := [], alts := [], laidByText := true, laidKinds := [.sentinel, .sentinel], laidTests := true, laidLooks := .later }
def WholeSumsUptoCardSaid : Prop := Claim7.holds Tryd.pinned (.plain (OpenSpec.upto wholeSumsSpec)) wholeSumsUptoCard

/-- THE SECOND FORM's CARD OF 'optimalaw1.RatioOf'. -/
def ratioOfUptoCard : Claim7 := { stood := { row := ratioOfUptoRow, standIns := [], harness := (true, "178d0d9df88cc8c131382326520d4352c32406308df1fd9bcb55e074b9abfaa2"), looks := true }, kinds := [], alts := [], laidByText := true, laidKinds := [.sentinel, .sentinel], laidTests := true, laidLooks := .later }
def RatioOfUptoCardSaid : Prop := Claim7.holds Tryd.pinned (.plain (OpenSpec.upto ratioOfSpec)) ratioOfUptoCard

/-- THE SECOND FORM's CARD OF 'optimalaw1.RatioSums'. -/
def ratioSumsUptoCard : Claim7 := { stood := { row := ratioSumsUptoRow, standIns := [], harness := (true, "178d0d9df88cc8c131382326520d4352c32406308df1fd9bcb55e074b9abfaa2"), looks := true }, kinds := [], alts := [], laidByText := true, laidKinds := [.sentinel, .sentinel, .sentinel], laidTests := true, laidLooks := .later }
def RatioSumsUptoCardSaid : Prop := Claim7.holds Tryd.pinned (.plain (OpenSpec.upto ratioSumsSpec)) ratioSumsUptoCard

/-- THE SECOND FORM's CARD OF 'optimalaw1.RatioSimplest'. -/
def ratioSimplestUptoCard : Claim7 := { stood := { row := ratioSimplestUptoRow, standIns := [], harness := (true, "178d0d9df88cc8c131382326520d4352c32406308df1fd9bcb55e074b9abfaa2"), looks := true }, kinds := [], alts := [], laidByText := true, laidKinds := [.sentinel, .sentinel, .sentinel], laidTests := true, laidLooks := .later }
def RatioSimplestUptoCardSaid : Prop := Claim7.holds Tryd.pinned (.plain (OpenSpec.upto ratioSimplestSpec)) ratioSimplestUptoCard

/-- THE SECOND FORM's CARD OF 'optimalaw1.RatioBetween'. -/
def ratioBetweenUptoCard : Claim7 := { stood := { row := ratioBetweenUptoRow, standIns := [], harness := (true, "178d0d9df88cc8c131382326520d4352c32406308df1fd9bcb55e074b9abfaa2"), looks := true }, kinds := [], alts := [], laidByText := true, laidKinds := [.sentinel, .sentinel, .sentinel], laidTests := true, laidLooks := .later }
def RatioBetweenUptoCardSaid : Prop := Claim7.holds Tryd.pinned (.plain (OpenSpec.upto ratioBetweenSpec)) ratioBetweenUptoCard

/-- THE SECOND FORM's CARD OF 'optimalaw1.RatioDecimal'. -/
def ratioDecimalUptoCard : Claim7 := { stood := { row := ratioDecimalUptoRow, standIns := [], harness := (true, "178d0d9df88cc8c131382326520d4352c32406308df1fd9bcb55e074b9abfaa2"), looks := true }, kinds := [], alts := [], laidByText := true, laidKinds := [.sentinel, .sentinel, .sentinel], laidTests := true, laidLooks := .later }
def RatioDecimalUptoCardSaid : Prop := Claim7.holds Tryd.pinned (.plain (OpenSpec.upto ratioDecimalSpec)) ratioDecimalUptoCard

/-- THE SECOND FORM's CARD OF 'optimalaw1.RatioRead'. -/
def ratioReadUptoCard : Claim7 := { stood := { row := ratioReadUptoRow, standIns := [], harness := (true, "178d0d9df88cc8c131382326520d4352c32406308df1fd9bcb55e074b9abfaa2"), looks := true }, kinds := [], alts := [], laidByText := true, laidKinds := [.handle, .sentinel, .sentinel, .sentinel, .sentinel, .sentinel, .sentinel, .sentinel, .sentinel, .sentinel, .sentinel], laidTests := true, laidLooks := .later }
def RatioReadUptoCardSaid : Prop := Claim7.holds Tryd.pinned (.plain (OpenSpec.upto ratioReadSpec)) ratioReadUptoCard
end Rows
end Go.Proofs.YtgiagombkgjhfaaDoor
