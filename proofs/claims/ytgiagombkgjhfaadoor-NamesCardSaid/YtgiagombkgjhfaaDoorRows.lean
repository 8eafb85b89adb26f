/-
  NARROWER THAN 'FOR EVERY INPUT', by the rows' own cells (each row's printed sentence says how): WholeOf: laid · Names: laid · WholeRead: laid · WholeRing: laid · WholeSums: laid · RatioOf: laid · RatioSums: laid · RatioSimplest: laid · RatioBetween: laid · RatioDecimal: laid · RatioRead: laid.
  DERIVED. THE GIVEN ROWS OF THIS SEAT. 11 by the template 'for every input the law returns true; each argument reads behind the call as it read before'; 0 by the template 'total and deterministic' (their statements: YtgiagombkgjhfaaDoorTotals.lean).
  GIVEN WITH THE SEED: the statements are not yours to turn. If you find one false, say at which input.
  Laid BY PROGRAM, IN A SANDBOX (cutbox-rows.mjs): the forced cells as the released guide's own fill.sh prints them over the translation c5268c5fffa72cb6… (all of the seat's roots in one cut). By AI agents, Wed Nov 11 2026. No macro, syntax, notation, axiom, sorry.
-/
import Derived.Test.YtgiagombkgjhfaaDoorChecked
import GoSem.Claim
import GoSem.ClaimJoined
import GoSem.ClaimMapViews
import Derived.JoinedTies
import Derived.KernelRfl
namespace Go.Proofs.YtgiagombkgjhfaaDoor
/- THE CELL 'sum', in the pinned program and in every row, IS THE sha256 OF THE DUMP (.gsa) THAT YtgiagombkgjhfaaDoorProg.lean LOADS. Nothing in Lean hashes anything: it is a label: what it is worth is what the hold of that sum in a sandbox is worth. -/
noncomputable def Tryd.pinned : Pinned := { name := "ytgiagombkgjhfaadoor", sum := "c5268c5fffa72cb6eeca1fdf4f26fdeefaeca077862939a4101d7242fd2721bb", checked := Tryd.checked }
namespace Rows
def none {H : Type} : Left H := { results := [], args := [] }

/- WHAT THE LISTED PACKAGE-LEVEL VARIABLES READ AS WHEN THE CALL BEGINS. Each datum BY PROGRAM (the guide's laid-datum.mjs) off the statement by which the dump's own 'gosem.cut.vars' lays the variable. In a bare row this is a premise. The card (YtgiagombkgjhfaaDoorCards.lean) ties it to the program's text. -/
def laid_optima_api_ErrText {H : Type} : DataW H := .iface "*errors.errorString" (.ptr (.agg [.lit (.string [111, 112, 116, 105, 109, 97, 58, 32, 116, 101, 120, 116])]))
def laid_optima_api_ErrBound {H : Type} : DataW H := .iface "*errors.errorString" (.ptr (.agg [.lit (.string [111, 112, 116, 105, 109, 97, 58, 32, 98, 111, 117, 110, 100])]))
def laid_errors_errorType {H : Type} : DataW H := .iface "internal/reflectlite.rtype" (.agg [.ptr (.lit (.string [101, 114, 114, 111, 114]))])
def laid_optima_api_ErrZero {H : Type} : DataW H := .iface "*errors.errorString" (.ptr (.agg [.lit (.string [111, 112, 116, 105, 109, 97, 58, 32, 122, 101, 114, 111])]))
def laid_optima_api_ErrShape {H : Type} : DataW H := .iface "*errors.errorString" (.ptr (.agg [.lit (.string [111, 112, 116, 105, 109, 97, 58, 32, 115, 104, 97, 112, 101])]))
def laid_optima_api_ErrSingular {H : Type} : DataW H := .iface "*errors.errorString" (.ptr (.agg [.lit (.string [111, 112, 116, 105, 109, 97, 58, 32, 115, 105, 110, 103, 117, 108, 97, 114])]))
def laid_optima_api_ErrSense {H : Type} : DataW H := .iface "*errors.errorString" (.ptr (.agg [.lit (.string [111, 112, 116, 105, 109, 97, 58, 32, 115, 101, 110, 115, 101])]))
def laid_optima_api_ErrName {H : Type} : DataW H := .iface "*errors.errorString" (.ptr (.agg [.lit (.string [111, 112, 116, 105, 109, 97, 58, 32, 110, 97, 109, 101])]))
def laid_optima_api_ErrNumber {H : Type} : DataW H := .iface "*errors.errorString" (.ptr (.agg [.lit (.string [111, 112, 116, 105, 109, 97, 58, 32, 110, 117, 109, 98, 101, 114])]))
def laid_optima_api_ErrBasis {H : Type} : DataW H := .iface "*errors.errorString" (.ptr (.agg [.lit (.string [111, 112, 116, 105, 109, 97, 58, 32, 98, 97, 115, 105, 115])]))
def laid_optima_api_ErrOpen {H : Type} : DataW H := .iface "*errors.errorString" (.ptr (.agg [.lit (.string [111, 112, 116, 105, 109, 97, 58, 32, 111, 112, 101, 110])]))

/-- 'optimalaw1.WholeOf': WHATEVER THE INPUT: true; the input reads as it did. -/
def wholeOfSpec : ChangeSpec := { name := "wholeOf", fn := fun _ => fun
  | [d1, d2] => { results := [.lit (.bool true)], args := [d1, d2] }
  | _ => none }
def wholeOfRow : OpenClaim := { program := "ytgiagombkgjhfaadoor", sum := "c5268c5fffa72cb6eeca1fdf4f26fdeefaeca077862939a4101d7242fd2721bb", func := "optima/optimalaw1.WholeOf", spec := "wholeOf", named := ["optima/api.ErrBound", "optima/api.ErrText"], apart := false, laid := [("optima/api.ErrText", laid_optima_api_ErrText), ("optima/api.ErrBound", laid_optima_api_ErrBound)] }
def WholeOfSaid : Prop := wholeOfRow.holds Tryd.pinned (OpenSpec.ofChange wholeOfSpec)

/-- ITS FALSE NEIGHBOUR: 'it returns false'. Refute it at one input. -/
def wholeOfWrong : ChangeSpec := { name := "wholeOf", fn := fun _ => fun
  | [d1, d2] => { results := [.lit (.bool false)], args := [d1, d2] }
  | _ => none }
def WholeOfWrongFalsely : Prop := wholeOfRow.holds Tryd.pinned (OpenSpec.ofChange wholeOfWrong)

/-- 'optimalaw1.Names': WHATEVER THE INPUT: true; the input reads as it did. -/
def namesSpec : ChangeSpec := { name := "names", fn := fun _ => fun
  | [] => { results := [.lit (.bool true)], args := [] }
  | _ => none }
def namesRow : OpenClaim := { program := "ytgiagombkgjhfaadoor", sum := "c5268c5fffa72cb6eeca1fdf4f26fdeefaeca077862939a4101d7242fd2721bb", func := "optima/optimalaw1.Names", spec := "names", inPlace := ["internal/reflectlite.TypeOf", "internal/reflectlite.ValueOf", "(internal/reflectlite.Value).Type", "(internal/reflectlite.Value).IsNil", "(internal/reflectlite.Value).Elem", "(internal/reflectlite.Value).Set"], unfollowed := true, recurses := true, named := ["optima/api.ErrText", "optima/api.ErrOpen", "optima/api.ErrBound", "optima/api.ErrZero", "optima/api.ErrShape", "optima/api.ErrSingular", "optima/api.ErrSense", "optima/api.ErrName", "optima/api.ErrNumber", "optima/api.ErrBasis", "errors.errorType"], apart := false, laid := [("errors.errorType", laid_errors_errorType), ("optima/api.ErrText", laid_optima_api_ErrText), ("optima/api.ErrBound", laid_optima_api_ErrBound), ("optima/api.ErrZero", laid_optima_api_ErrZero), ("optima/api.ErrShape", laid_optima_api_ErrShape), ("optima/api.ErrSingular", laid_optima_api_ErrSingular), ("optima/api.ErrSense", laid_optima_api_ErrSense), ("optima/api.ErrName", laid_optima_api_ErrName), ("optima/api.ErrNumber", laid_optima_api_ErrNumber), ("optima/api.ErrBasis", laid_optima_api_ErrBasis), ("optima/api.ErrOpen", laid_optima_api_ErrOpen)] }
def NamesSaid : Prop := namesRow.holds Tryd.pinned (OpenSpec.ofChange namesSpec)

/-- ITS FALSE NEIGHBOUR: 'it returns false'. Refute it at one input. -/
def namesWrong : ChangeSpec := { name := "names", fn := fun _ => fun
  | [] => { results := [.lit (.bool false)], args := [] }
  | _ => none }
def NamesWrongFalsely : Prop := namesRow.holds Tryd.pinned (OpenSpec.ofChange namesWrong)

/-- 'optimalaw1.WholeRead': WHATEVER THE INPUT: true; the input reads as it did. -/
def wholeReadSpec : ChangeSpec := { name := "wholeRead", fn := fun _ => fun
  | [d] => { results := [.lit (.bool true)], args := [d] }
  | _ => none }
def wholeReadRow : OpenClaim := { program := "ytgiagombkgjhfaadoor", sum := "c5268c5fffa72cb6eeca1fdf4f26fdeefaeca077862939a4101d7242fd2721bb", func := "optima/optimalaw1.WholeRead", spec := "wholeRead", inPlace := ["internal/reflectlite.TypeOf", "internal/reflectlite.ValueOf", "(internal/reflectlite.Value).Type", "(internal/reflectlite.Value).IsNil", "(internal/reflectlite.Value).Elem", "(internal/reflectlite.Value).Set"], unfollowed := true, recurses := true, named := ["optima/api.ErrBound", "optima/api.ErrText", "optima/api.ErrZero", "optima/api.ErrShape", "optima/api.ErrSingular", "optima/api.ErrSense", "optima/api.ErrName", "optima/api.ErrNumber", "optima/api.ErrBasis", "optima/api.ErrOpen", "errors.errorType"], apart := false, laid := [("errors.errorType", laid_errors_errorType), ("optima/api.ErrText", laid_optima_api_ErrText), ("optima/api.ErrBound", laid_optima_api_ErrBound), ("optima/api.ErrZero", laid_optima_api_ErrZero), ("optima/api.ErrShape", laid_optima_api_ErrShape), ("optima/api.ErrSingular", laid_optima_api_ErrSingular), ("optima/api.ErrSense", laid_optima_api_ErrSense), ("optima/api.ErrName", laid_optima_api_ErrName), ("optima/api.ErrNumber", laid_optima_api_ErrNumber), ("optima/api.ErrBasis", laid_optima_api_ErrBasis), ("optima/api.ErrOpen", laid_optima_api_ErrOpen)] }
def WholeReadSaid : Prop := wholeReadRow.holds Tryd.pinned (OpenSpec.ofChange wholeReadSpec)

/-- ITS FALSE NEIGHBOUR: 'it returns false'. Refute it at one input. -/
def wholeReadWrong : ChangeSpec := { name := "wholeRead", fn := fun _ => fun
  | [d] => { results := [.lit (.bool false)], args := [d] }
  | _ => none }
def WholeReadWrongFalsely : Prop := wholeReadRow.holds Tryd.pinned (OpenSpec.ofChange wholeReadWrong)

/-- 'optimalaw1.WholeRing': WHATEVER THE INPUT: true; the input reads as it did. -/
def wholeRingSpec : ChangeSpec := { name := "wholeRing", fn := fun _ => fun
  | [d1, d2, d3] => { results := [.lit (.bool true)], args := [d1, d2, d3] }
  | _ => none }
def wholeRingRow : OpenClaim := { program := "ytgiagombkgjhfaadoor", sum := "c5268c5fffa72cb6eeca1fdf4f26fdeefaeca077862939a4101d7242fd2721bb", func := "optima/optimalaw1.WholeRing", spec := "wholeRing", named := ["optima/api.ErrBound", "optima/api.ErrText"], apart := false, laid := [("optima/api.ErrText", laid_optima_api_ErrText), ("optima/api.ErrBound", laid_optima_api_ErrBound)] }
def WholeRingSaid : Prop := wholeRingRow.holds Tryd.pinned (OpenSpec.ofChange wholeRingSpec)

/-- ITS FALSE NEIGHBOUR: 'it returns false'. Refute it at one input. -/
def wholeRingWrong : ChangeSpec := { name := "wholeRing", fn := fun _ => fun
  | [d1, d2, d3] => { results := [.lit (.bool false)], args := [d1, d2, d3] }
  | _ => none }
def WholeRingWrongFalsely : Prop := wholeRingRow.holds Tryd.pinned (OpenSpec.ofChange wholeRingWrong)

/-- 'optimalaw1.WholeSums': WHATEVER THE INPUT: true; the input reads as it did. -/
def wholeSumsSpec : ChangeSpec := { name := "wholeSums", fn := fun _ => fun
  | [d1, d2] => { results := [.lit (.bool true)], args := [d1, d2] }
  | _ => none }
def wholeSumsRow : OpenClaim := { program := "ytgiagombkgjhfaadoor", sum := "c5268c5fffa72cb6eeca1fdf4f26fdeefaeca077862939a4101d7242fd2721bb", func := "optima/optimalaw1.WholeSums", spec := "wholeSums", named := ["optima/api.ErrBound", "optima/api.ErrText"], apart := false, laid := [("optima/api.ErrText", laid_optima_api_ErrText), ("optima/api.ErrBound", laid_optima_api_ErrBound)] }
def WholeSumsSaid : Prop := wholeSumsRow.holds Tryd.pinned (OpenSpec.ofChange wholeSumsSpec)

/-- ITS FALSE NEIGHBOUR: 'it returns false'. Refute it at one input. -/
def wholeSumsWrong : ChangeSpec := { name := "wholeSums", fn := fun _ => fun
  | [d1, d2] => { results := [.lit (.bool false)], args := [d1, d2] }
  | _ => none }
def WholeSumsWrongFalsely : Prop := wholeSumsRow.holds Tryd.pinned (OpenSpec.ofChange wholeSumsWrong)

/-- 'optimalaw1.RatioOf': WHATEVER THE INPUT: true; the input reads as it did. -/
def ratioOfSpec : ChangeSpec := { name := "ratioOf", fn := fun _ => fun
  | [d1, d2, d3] => { results := [.lit (.bool true)], args := [d1, d2, d3] }
  | _ => none }
def ratioOfRow : OpenClaim := { program := "ytgiagombkgjhfaadoor", sum := "c5268c5fffa72cb6eeca1fdf4f26fdeefaeca077862939a4101d7242fd2721bb", func := "optima/optimalaw1.RatioOf", spec := "ratioOf", named := ["optima/api.ErrBound", "optima/api.ErrText"], apart := false, laid := [("optima/api.ErrText", laid_optima_api_ErrText), ("optima/api.ErrBound", laid_optima_api_ErrBound)] }
def RatioOfSaid : Prop := ratioOfRow.holds Tryd.pinned (OpenSpec.ofChange ratioOfSpec)

/-- ITS FALSE NEIGHBOUR: 'it returns false'. Refute it at one input. -/
def ratioOfWrong : ChangeSpec := { name := "ratioOf", fn := fun _ => fun
  | [d1, d2, d3] => { results := [.lit (.bool false)], args := [d1, d2, d3] }
  | _ => none }
def RatioOfWrongFalsely : Prop := ratioOfRow.holds Tryd.pinned (OpenSpec.ofChange ratioOfWrong)

/-- 'optimalaw1.RatioSums': WHATEVER THE INPUT: true; the input reads as it did. -/
def ratioSumsSpec : ChangeSpec := { name := "ratioSums", fn := fun _ => fun
  | [d1, d2] => { results := [.lit (.bool true)], args := [d1, d2] }
  | _ => none }
def ratioSumsRow : OpenClaim := { program := "ytgiagombkgjhfaadoor", sum := "c5268c5fffa72cb6eeca1fdf4f26fdeefaeca077862939a4101d7242fd2721bb", func := "optima/optimalaw1.RatioSums", spec := "ratioSums", named := ["optima/api.ErrText", "optima/api.ErrBound", "optima/api.ErrZero"], apart := false, laid := [("optima/api.ErrText", laid_optima_api_ErrText), ("optima/api.ErrBound", laid_optima_api_ErrBound), ("optima/api.ErrZero", laid_optima_api_ErrZero)] }
def RatioSumsSaid : Prop := ratioSumsRow.holds Tryd.pinned (OpenSpec.ofChange ratioSumsSpec)

/-- ITS FALSE NEIGHBOUR: 'it returns false'. Refute it at one input. -/
def ratioSumsWrong : ChangeSpec := { name := "ratioSums", fn := fun _ => fun
  | [d1, d2] => { results := [.lit (.bool false)], args := [d1, d2] }
  | _ => none }
def RatioSumsWrongFalsely : Prop := ratioSumsRow.holds Tryd.pinned (OpenSpec.ofChange ratioSumsWrong)

/-- 'optimalaw1.RatioSimplest': WHATEVER THE INPUT: true; the input reads as it did. -/
def ratioSimplestSpec : ChangeSpec := { name := "ratioSimplest", fn := fun _ => fun
  | [d1, d2] => { results := [.lit (.bool true)], args := [d1, d2] }
  | _ => none }
def ratioSimplestRow : OpenClaim := { program := "ytgiagombkgjhfaadoor", sum := "c5268c5fffa72cb6eeca1fdf4f26fdeefaeca077862939a4101d7242fd2721bb", func := "optima/optimalaw1.RatioSimplest", spec := "ratioSimplest", recurses := true, named := ["optima/api.ErrText", "optima/api.ErrBound", "optima/api.ErrZero"], apart := false, laid := [("optima/api.ErrText", laid_optima_api_ErrText), ("optima/api.ErrBound", laid_optima_api_ErrBound), ("optima/api.ErrZero", laid_optima_api_ErrZero)] }
def RatioSimplestSaid : Prop := ratioSimplestRow.holds Tryd.pinned (OpenSpec.ofChange ratioSimplestSpec)

/-- ITS FALSE NEIGHBOUR: 'it returns false'. Refute it at one input. -/
def ratioSimplestWrong : ChangeSpec := { name := "ratioSimplest", fn := fun _ => fun
  | [d1, d2] => { results := [.lit (.bool false)], args := [d1, d2] }
  | _ => none }
def RatioSimplestWrongFalsely : Prop := ratioSimplestRow.holds Tryd.pinned (OpenSpec.ofChange ratioSimplestWrong)

/-- 'optimalaw1.RatioBetween': WHATEVER THE INPUT: true; the input reads as it did. -/
def ratioBetweenSpec : ChangeSpec := { name := "ratioBetween", fn := fun _ => fun
  | [d1, d2] => { results := [.lit (.bool true)], args := [d1, d2] }
  | _ => none }
def ratioBetweenRow : OpenClaim := { program := "ytgiagombkgjhfaadoor", sum := "c5268c5fffa72cb6eeca1fdf4f26fdeefaeca077862939a4101d7242fd2721bb", func := "optima/optimalaw1.RatioBetween", spec := "ratioBetween", recurses := true, named := ["optima/api.ErrText", "optima/api.ErrBound", "optima/api.ErrZero"], apart := false, laid := [("optima/api.ErrText", laid_optima_api_ErrText), ("optima/api.ErrBound", laid_optima_api_ErrBound), ("optima/api.ErrZero", laid_optima_api_ErrZero)] }
def RatioBetweenSaid : Prop := ratioBetweenRow.holds Tryd.pinned (OpenSpec.ofChange ratioBetweenSpec)

/-- ITS FALSE NEIGHBOUR: 'it returns false'. Refute it at one input. -/
def ratioBetweenWrong : ChangeSpec := { name := "ratioBetween", fn := fun _ => fun
  | [d1, d2] => { results := [.lit (.bool false)], args := [d1, d2] }
  | _ => none }
def RatioBetweenWrongFalsely : Prop := ratioBetweenRow.holds Tryd.pinned (OpenSpec.ofChange ratioBetweenWrong)

/-- 'optimalaw1.RatioDecimal': WHATEVER THE INPUT: true; the input reads as it did. -/
def ratioDecimalSpec : ChangeSpec := { name := "ratioDecimal", fn := fun _ => fun
  | [d1, d2] => { results := [.lit (.bool true)], args := [d1, d2] }
  | _ => none }
def ratioDecimalRow : OpenClaim := { program := "ytgiagombkgjhfaadoor", sum := "c5268c5fffa72cb6eeca1fdf4f26fdeefaeca077862939a4101d7242fd2721bb", func := "optima/optimalaw1.RatioDecimal", spec := "ratioDecimal", inPlace := ["internal/abi.NoEscape", "internal/bytealg.MakeNoZero"], named := ["optima/api.ErrText", "optima/api.ErrBound", "optima/api.ErrZero"], apart := false, laid := [("optima/api.ErrText", laid_optima_api_ErrText), ("optima/api.ErrBound", laid_optima_api_ErrBound), ("optima/api.ErrZero", laid_optima_api_ErrZero)] }
def RatioDecimalSaid : Prop := ratioDecimalRow.holds Tryd.pinned (OpenSpec.ofChange ratioDecimalSpec)

/-- ITS FALSE NEIGHBOUR: 'it returns false'. Refute it at one input. -/
def ratioDecimalWrong : ChangeSpec := { name := "ratioDecimal", fn := fun _ => fun
  | [d1, d2] => { results := [.lit (.bool false)], args := [d1, d2] }
  | _ => none }
def RatioDecimalWrongFalsely : Prop := ratioDecimalRow.holds Tryd.pinned (OpenSpec.ofChange ratioDecimalWrong)

/-- 'optimalaw1.RatioRead': WHATEVER THE INPUT: true; the input reads as it did. -/
def ratioReadSpec : ChangeSpec := { name := "ratioRead", fn := fun _ => fun
  | [d] => { results := [.lit (.bool true)], args := [d] }
  | _ => none }
def ratioReadRow : OpenClaim := { program := "ytgiagombkgjhfaadoor", sum := "c5268c5fffa72cb6eeca1fdf4f26fdeefaeca077862939a4101d7242fd2721bb", func := "optima/optimalaw1.RatioRead", spec := "ratioRead", inPlace := ["internal/reflectlite.TypeOf", "internal/reflectlite.ValueOf", "(internal/reflectlite.Value).Type", "(internal/reflectlite.Value).IsNil", "(internal/reflectlite.Value).Elem", "(internal/reflectlite.Value).Set"], unfollowed := true, recurses := true, named := ["optima/api.ErrText", "optima/api.ErrBound", "optima/api.ErrZero", "optima/api.ErrShape", "optima/api.ErrSingular", "optima/api.ErrSense", "optima/api.ErrName", "optima/api.ErrNumber", "optima/api.ErrBasis", "optima/api.ErrOpen", "errors.errorType"], apart := false, laid := [("errors.errorType", laid_errors_errorType), ("optima/api.ErrText", laid_optima_api_ErrText), ("optima/api.ErrBound", laid_optima_api_ErrBound), ("optima/api.ErrZero", laid_optima_api_ErrZero), ("optima/api.ErrShape", laid_optima_api_ErrShape), ("optima/api.ErrSingular", laid_optima_api_ErrSingular), ("optima/api.ErrSense", laid_optima_api_ErrSense), ("optima/api.ErrName", laid_optima_api_ErrName), ("optima/api.ErrNumber", laid_optima_api_ErrNumber), ("optima/api.ErrBasis", laid_optima_api_ErrBasis), ("optima/api.ErrOpen", laid_optima_api_ErrOpen)] }
def RatioReadSaid : Prop := ratioReadRow.holds Tryd.pinned (OpenSpec.ofChange ratioReadSpec)

/-- ITS FALSE NEIGHBOUR: 'it returns false'. Refute it at one input. -/
def ratioReadWrong : ChangeSpec := { name := "ratioRead", fn := fun _ => fun
  | [d] => { results := [.lit (.bool false)], args := [d] }
  | _ => none }
def RatioReadWrongFalsely : Prop := ratioReadRow.holds Tryd.pinned (OpenSpec.ofChange ratioReadWrong)

/- THE SECOND FORM. 'bulk': how many values and letters a reading holds, each counted each time it is reached (what is shared counts as often as it is met; a slice's spare places count too). A statement '..UptoSaid' is the law's where the arguments, and the package variables that the reading takes, are together of bulk at most 1048576: NARROWER than '..Said'. Prove '..Said' where nothing that the law and all that it calls make is longer than what came in: it says more and counts as full. Else prove '..UptoSaid'. A law counts once. -/
mutual
def uptoBulk {H : Type} : DataW H → Nat
  | .lit (.string bytes) => bytes.length + 1
  | .lit _ => 1
  | .nil => 1
  | .ptr d => uptoBulk d + 1
  | .slice elems spare => uptoBulkAll elems + uptoBulkAll spare + 1
  | .agg parts => uptoBulkAll parts + 1
  | .iface _ d => uptoBulk d + 1
  | .map entries => uptoBulkEntries entries + 1
  | .held _ => 1
def uptoBulkAll {H : Type} : List (DataW H) → Nat
  | [] => 0
  | d :: r => uptoBulk d + uptoBulkAll r
def uptoBulkEntries {H : Type} : List (Lit × DataW H) → Nat
  | [] => 0
  | x :: r => uptoBulkEntry x + uptoBulkEntries r
def uptoBulkEntry {H : Type} : Lit × DataW H → Nat
  | (.string bytes, d) => bytes.length + uptoBulk d + 1
  | (_, d) => uptoBulk d + 1
 end
def uptoSmall : (H : Type) → List (DataW H) → Bool := fun _ ds => decide (uptoBulkAll ds ≤ 1048576)
def OpenSpec.upto (s : _root_.Go.ChangeSpec) : _root_.Go.OpenSpec := { _root_.Go.OpenSpec.ofChange s with cond := some uptoSmall }

/-- 'optimalaw1.WholeOf', WHERE WHAT IT READS IS OF BULK AT MOST 1048576: true; the input reads as it did. -/
def wholeOfUptoRow : OpenClaim := { program := "ytgiagombkgjhfaadoor", sum := "c5268c5fffa72cb6eeca1fdf4f26fdeefaeca077862939a4101d7242fd2721bb", func := "optima/optimalaw1.WholeOf", spec := "wholeOf", named := ["optima/api.ErrBound", "optima/api.ErrText"], apart := false, laid := [("optima/api.ErrText", laid_optima_api_ErrText), ("optima/api.ErrBound", laid_optima_api_ErrBound)], narrowed := true }
def WholeOfUptoSaid : Prop := wholeOfUptoRow.holds Tryd.pinned (OpenSpec.upto wholeOfSpec)

/-- 'optimalaw1.Names', WHERE WHAT IT READS IS OF BULK AT MOST 1048576: true; the input reads as it did. -/
def namesUptoRow : OpenClaim := { program := "ytgiagombkgjhfaadoor", sum := "c5268c5fffa72cb6eeca1fdf4f26fdeefaeca077862939a4101d7242fd2721bb", func := "optima/optimalaw1.Names", spec := "names", inPlace := ["internal/reflectlite.TypeOf", "internal/reflectlite.ValueOf", "(internal/reflectlite.Value).Type", "(internal/reflectlite.Value).IsNil", "(internal/reflectlite.Value).Elem", "(internal/reflectlite.Value).Set"], unfollowed := true, recurses := true, named := ["optima/api.ErrText", "optima/api.ErrOpen", "optima/api.ErrBound", "optima/api.ErrZero", "optima/api.ErrShape", "optima/api.ErrSingular", "optima/api.ErrSense", "optima/api.ErrName", "optima/api.ErrNumber", "optima/api.ErrBasis", "errors.errorType"], apart := false, laid := [("errors.errorType", laid_errors_errorType), ("optima/api.ErrText", laid_optima_api_ErrText), ("optima/api.ErrBound", laid_optima_api_ErrBound), ("optima/api.ErrZero", laid_optima_api_ErrZero), ("optima/api.ErrShape", laid_optima_api_ErrShape), ("optima/api.ErrSingular", laid_optima_api_ErrSingular), ("optima/api.ErrSense", laid_optima_api_ErrSense), ("optima/api.ErrName", laid_optima_api_ErrName), ("optima/api.ErrNumber", laid_optima_api_ErrNumber), ("optima/api.ErrBasis", laid_optima_api_ErrBasis), ("optima/api.ErrOpen", laid_optima_api_ErrOpen)], narrowed := true }
def NamesUptoSaid : Prop := namesUptoRow.holds Tryd.pinned (OpenSpec.upto namesSpec)

/-- 'optimalaw1.WholeRead', WHERE WHAT IT READS IS OF BULK AT MOST 1048576: true; the input reads as it did. -/
def wholeReadUptoRow : OpenClaim := { program := "ytgiagombkgjhfaadoor", sum := "c5268c5fffa72cb6eeca1fdf4f26fdeefaeca077862939a4101d7242fd2721bb", func := "optima/optimalaw1.WholeRead", spec := "wholeRead", inPlace := ["internal/reflectlite.TypeOf", "internal/reflectlite.ValueOf", "(internal/reflectlite.Value).Type", "(internal/reflectlite.Value).IsNil", "(internal/reflectlite.Value).Elem", "(internal/reflectlite.Value).Set"], unfollowed := true, recurses := true, named := ["optima/api.ErrBound", "optima/api.ErrText", "optima/api.ErrZero", "optima/api.ErrShape", "optima/api.ErrSingular", "optima/api.ErrSense", "optima/api.ErrName", "optima/api.ErrNumber", "optima/api.ErrBasis", "optima/api.ErrOpen", "errors.errorType"], apart := false, laid := [("errors.errorType", laid_errors_errorType), ("optima/api.ErrText", laid_optima_api_ErrText), ("optima/api.ErrBound", laid_optima_api_ErrBound), ("optima/api.ErrZero", laid_optima_api_ErrZero), ("optima/api.ErrShape", laid_optima_api_ErrShape), ("optima/api.ErrSingular", laid_optima_api_ErrSingular), ("optima/api.ErrSense", laid_optima_api_ErrSense), ("optima/api.ErrName", laid_optima_api_ErrName), ("optima/api.ErrNumber", laid_optima_api_ErrNumber), ("optima/api.ErrBasis", laid_optima_api_ErrBasis), ("optima/api.ErrOpen", laid_optima_api_ErrOpen)], narrowed := true }
def WholeReadUptoSaid : Prop := wholeReadUptoRow.holds Tryd.pinned (OpenSpec.upto wholeReadSpec)

/-- 'optimalaw1.WholeRing', WHERE WHAT IT READS IS OF BULK AT MOST 1048576: true; the input reads as it did. -/
def wholeRingUptoRow : OpenClaim := { program := "ytgiagombkgjhfaadoor", sum := "c5268c5fffa72cb6eeca1fdf4f26fdeefaeca077862939a4101d7242fd2721bb", func := "optima/optimalaw1.WholeRing", spec := "wholeRing", named := ["optima/api.ErrBound", "optima/api.ErrText"], apart := false, laid := [("optima/api.ErrText", laid_optima_api_ErrText), ("optima/api.ErrBound", laid_optima_api_ErrBound)], narrowed := true }
def WholeRingUptoSaid : Prop := wholeRingUptoRow.holds Tryd.pinned (OpenSpec.upto wholeRingSpec)

/-- 'optimalaw1.WholeSums', WHERE WHAT IT READS IS OF BULK AT MOST 1048576: true; the input reads as it did. -/
def wholeSumsUptoRow : OpenClaim := { program := "ytgiagombkgjhfaadoor", sum := "c5268c5fffa72cb6eeca1fdf4f26fdeefaeca077862939a4101d7242fd2721bb", func := "optima/optimalaw1.WholeSums", spec := "wholeSums", named := ["optima/api.ErrBound", "optima/api.ErrText"], apart := false, laid := [("optima/api.ErrText", laid_optima_api_ErrText), ("optima/api.ErrBound", laid_optima_api_ErrBound)], narrowed := true }
def WholeSumsUptoSaid : Prop := wholeSumsUptoRow.holds Tryd.pinned (OpenSpec.upto wholeSumsSpec)

/-- 'optimalaw1.RatioOf', WHERE WHAT IT READS IS OF BULK AT MOST 1048576: true; the input reads as it did. -/
def ratioOfUptoRow : OpenClaim := { program := "ytgiagombkgjhfaadoor", sum := "c5268c5fffa72cb6eeca1fdf4f26fdeefaeca077862939a4101d7242fd2721bb", func := "optima/optimalaw1.RatioOf", spec := "ratioOf", named := ["optima/api.ErrBound", "optima/api.ErrText"], apart := false, laid := [("optima/api.ErrText", laid_optima_api_ErrText), ("optima/api.ErrBound", laid_optima_api_ErrBound)], narrowed := true }
def RatioOfUptoSaid : Prop := ratioOfUptoRow.holds Tryd.pinned (OpenSpec.upto ratioOfSpec)

/-- 'optimalaw1.RatioSums', WHERE WHAT IT READS IS OF BULK AT MOST 1048576: true; the input reads as it did. -/
def ratioSumsUptoRow : OpenClaim := { program := "ytgiagombkgjhfaadoor", sum := "c5268c5fffa72cb6eeca1fdf4f26fdeefaeca077862939a4101d7242fd2721bb", func := "optima/optimalaw1.RatioSums", spec := "ratioSums", named := ["optima/api.ErrText", "optima/api.ErrBound", "optima/api.ErrZero"], apart := false, laid := [("optima/api.ErrText", laid_optima_api_ErrText), ("optima/api.ErrBound", laid_optima_api_ErrBound), ("optima/api.ErrZero", laid_optima_api_ErrZero)], narrowed := true }
def RatioSumsUptoSaid : Prop := ratioSumsUptoRow.holds Tryd.pinned (OpenSpec.upto ratioSumsSpec)

/-- 'optimalaw1.RatioSimplest', WHERE WHAT IT READS IS OF BULK AT MOST 1048576: true; the input reads as it did. -/
def ratioSimplestUptoRow : OpenClaim := { program := "ytgiagombkgjhfaadoor", sum := "c5268c5fffa72cb6eeca1fdf4f26fdeefaeca077862939a4101d7242fd2721bb", func := "optima/optimalaw1.RatioSimplest", spec := "ratioSimplest", recurses := true, named := ["optima/api.ErrText", "optima/api.ErrBound", "optima/api.ErrZero"], apart := false, laid := [("optima/api.ErrText", laid_optima_api_ErrText), ("optima/api.ErrBound", laid_optima_api_ErrBound), ("optima/api.ErrZero", laid_optima_api_ErrZero)], narrowed := true }
def RatioSimplestUptoSaid : Prop := ratioSimplestUptoRow.holds Tryd.pinned (OpenSpec.upto ratioSimplestSpec)

/-- 'optimalaw1.RatioBetween', WHERE WHAT IT READS IS OF BULK AT MOST 1048576: true; the input reads as it did. -/
def ratioBetweenUptoRow : OpenClaim := { program := "ytgiagombkgjhfaadoor", sum := "c5268c5fffa72cb6eeca1fdf4f26fdeefaeca077862939a4101d7242fd2721bb", func := "optima/optimalaw1.RatioBetween", spec := "ratioBetween", recurses := true, named := ["optima/api.ErrText", "optima/api.ErrBound", "optima/api.ErrZero"], apart := false, laid := [("optima/api.ErrText", laid_optima_api_ErrText), ("optima/api.ErrBound", laid_optima_api_ErrBound), ("optima/api.ErrZero", laid_optima_api_ErrZero)], narrowed := true }
def RatioBetweenUptoSaid : Prop := ratioBetweenUptoRow.holds Tryd.pinned (OpenSpec.upto ratioBetweenSpec)

/-- 'optimalaw1.RatioDecimal', WHERE WHAT IT READS IS OF BULK AT MOST 1048576: true; the input reads as it did. -/
def ratioDecimalUptoRow : OpenClaim := { program := "ytgiagombkgjhfaadoor", sum := "c5268c5fffa72cb6eeca1fdf4f26fdeefaeca077862939a4101d7242fd2721bb", func := "optima/optimalaw1.RatioDecimal", spec := "ratioDecimal", inPlace := ["internal/abi.NoEscape", "internal/bytealg.MakeNoZero"], named := ["optima/api.ErrText", "optima/api.ErrBound", "optima/api.ErrZero"], apart := false, laid := [("optima/api.ErrText", laid_optima_api_ErrText), ("optima/api.ErrBound", laid_optima_api_ErrBound), ("optima/api.ErrZero", laid_optima_api_ErrZero)], narrowed := true }
def RatioDecimalUptoSaid : Prop := ratioDecimalUptoRow.holds Tryd.pinned (OpenSpec.upto ratioDecimalSpec)

/-- 'optimalaw1.RatioRead', WHERE WHAT IT READS IS OF BULK AT MOST 1048576: true; the input reads as it did. -/
def ratioReadUptoRow : OpenClaim := { program := "ytgiagombkgjhfaadoor", sum := "c5268c5fffa72cb6eeca1fdf4f26fdeefaeca077862939a4101d7242fd2721bb", func := "optima/optimalaw1.RatioRead", spec := "ratioRead", inPlace := ["internal/reflectlite.TypeOf", "internal/reflectlite.ValueOf", "(internal/reflectlite.Value).Type", "(internal/reflectlite.Value).IsNil", "(internal/reflectlite.Value).Elem", "(internal/reflectlite.Value).Set"], unfollowed := true, recurses := true, named := ["optima/api.ErrText", "optima/api.ErrBound", "optima/api.ErrZero", "optima/api.ErrShape", "optima/api.ErrSingular", "optima/api.ErrSense", "optima/api.ErrName", "optima/api.ErrNumber", "optima/api.ErrBasis", "optima/api.ErrOpen", "errors.errorType"], apart := false, laid := [("errors.errorType", laid_errors_errorType), ("optima/api.ErrText", laid_optima_api_ErrText), ("optima/api.ErrBound", laid_optima_api_ErrBound), ("optima/api.ErrZero", laid_optima_api_ErrZero), ("optima/api.ErrShape", laid_optima_api_ErrShape), ("optima/api.ErrSingular", laid_optima_api_ErrSingular), ("optima/api.ErrSense", laid_optima_api_ErrSense), ("optima/api.ErrName", laid_optima_api_ErrName), ("optima/api.ErrNumber", laid_optima_api_ErrNumber), ("optima/api.ErrBasis", laid_optima_api_ErrBasis), ("optima/api.ErrOpen", laid_optima_api_ErrOpen)], narrowed := true }
def RatioReadUptoSaid : Prop := ratioReadUptoRow.holds Tryd.pinned (OpenSpec.upto ratioReadSpec)

end Rows
end Go.Proofs.YtgiagombkgjhfaaDoor
