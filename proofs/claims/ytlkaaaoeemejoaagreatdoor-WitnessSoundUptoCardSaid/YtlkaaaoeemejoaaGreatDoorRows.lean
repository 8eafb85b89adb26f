/-
  NARROWER THAN 'FOR EVERY INPUT', by the rows' own cells (each row's printed sentence says how): PlanChecks: laid · MatrixProduct: laid · NetsChecks: laid · WitnessSound: laid · MatrixReduced: laid · WitnessLimit: laid · LinearHolds: laid.
  DERIVED. THE GIVEN ROWS OF THIS SEAT. 7 by the template 'for every input the law returns true; each argument reads behind the call as it read before'; 0 by the template 'total and deterministic' (their statements: YtlkaaaoeemejoaaGreatDoorTotals.lean).
  GIVEN WITH THE SEED: the statements are not yours to turn. If you find one false, say at which input.
  Laid BY PROGRAM, IN A SANDBOX (cutbox-rows.mjs): the forced cells as the released guide's own fill.sh prints them over the translation a43fe9c74fcc4bc2… (all of the seat's roots in one cut). By AI agents, Wed Nov 11 2026. No macro, syntax, notation, axiom, sorry.
-/
import Derived.Test.YtlkaaaoeemejoaaGreatDoorChecked
import GoSem.Claim
import GoSem.ClaimJoined
import GoSem.ClaimMapViews
import Derived.JoinedTies
import Derived.KernelRfl
namespace Go.Proofs.YtlkaaaoeemejoaaGreatDoor
/- THE CELL 'sum', in the pinned program and in every row, IS THE sha256 OF THE DUMP (.gsa) THAT YtlkaaaoeemejoaaGreatDoorProg.lean LOADS. Nothing in Lean hashes anything: it is a label: what it is worth is what the hold of that sum in a sandbox is worth. -/
noncomputable def Tryz.pinned : Pinned := { name := "ytlkaaaoeemejoaagreatdoor", sum := "a43fe9c74fcc4bc24707db80f19fe5dbdb3d253f17e91292059b04e6741aa170", checked := Tryz.checked }
namespace Rows
def none {H : Type} : Left H := { results := [], args := [] }

/- WHAT THE LISTED PACKAGE-LEVEL VARIABLES READ AS WHEN THE CALL BEGINS. Each datum BY PROGRAM (the guide's laid-datum.mjs) off the statement by which the dump's own 'gosem.cut.vars' lays the variable. In a bare row this is a premise. The card (YtlkaaaoeemejoaaGreatDoorCards.lean) ties it to the program's text. -/
def laid_errors_errorType {H : Type} : DataW H := .iface "internal/reflectlite.rtype" (.agg [.ptr (.lit (.string [101, 114, 114, 111, 114]))])
def laid_optima_api_ErrText {H : Type} : DataW H := .iface "*errors.errorString" (.ptr (.agg [.lit (.string [111, 112, 116, 105, 109, 97, 58, 32, 116, 101, 120, 116])]))
def laid_optima_api_ErrBound {H : Type} : DataW H := .iface "*errors.errorString" (.ptr (.agg [.lit (.string [111, 112, 116, 105, 109, 97, 58, 32, 98, 111, 117, 110, 100])]))
def laid_optima_api_ErrZero {H : Type} : DataW H := .iface "*errors.errorString" (.ptr (.agg [.lit (.string [111, 112, 116, 105, 109, 97, 58, 32, 122, 101, 114, 111])]))
def laid_optima_api_ErrShape {H : Type} : DataW H := .iface "*errors.errorString" (.ptr (.agg [.lit (.string [111, 112, 116, 105, 109, 97, 58, 32, 115, 104, 97, 112, 101])]))
def laid_optima_api_ErrSingular {H : Type} : DataW H := .iface "*errors.errorString" (.ptr (.agg [.lit (.string [111, 112, 116, 105, 109, 97, 58, 32, 115, 105, 110, 103, 117, 108, 97, 114])]))
def laid_optima_api_ErrSense {H : Type} : DataW H := .iface "*errors.errorString" (.ptr (.agg [.lit (.string [111, 112, 116, 105, 109, 97, 58, 32, 115, 101, 110, 115, 101])]))
def laid_optima_api_ErrName {H : Type} : DataW H := .iface "*errors.errorString" (.ptr (.agg [.lit (.string [111, 112, 116, 105, 109, 97, 58, 32, 110, 97, 109, 101])]))
def laid_optima_api_ErrNumber {H : Type} : DataW H := .iface "*errors.errorString" (.ptr (.agg [.lit (.string [111, 112, 116, 105, 109, 97, 58, 32, 110, 117, 109, 98, 101, 114])]))
def laid_optima_api_ErrBasis {H : Type} : DataW H := .iface "*errors.errorString" (.ptr (.agg [.lit (.string [111, 112, 116, 105, 109, 97, 58, 32, 98, 97, 115, 105, 115])]))
def laid_optima_api_ErrOpen {H : Type} : DataW H := .iface "*errors.errorString" (.ptr (.agg [.lit (.string [111, 112, 116, 105, 109, 97, 58, 32, 111, 112, 101, 110])]))

/-- 'optimalaw3.PlanChecks': WHATEVER THE INPUT: true; the input reads as it did. -/
def planChecksSpec : ChangeSpec := { name := "planChecks", fn := fun _ => fun
  | [d1, d2, d3, d4, d5, d6] => { results := [.lit (.bool true)], args := [d1, d2, d3, d4, d5, d6] }
  | _ => none }
def planChecksRow : OpenClaim := { program := "ytlkaaaoeemejoaagreatdoor", sum := "a43fe9c74fcc4bc24707db80f19fe5dbdb3d253f17e91292059b04e6741aa170", func := "optima/optimalaw3.PlanChecks", spec := "planChecks", inPlace := ["internal/reflectlite.TypeOf", "internal/reflectlite.ValueOf", "(internal/reflectlite.Value).Type", "(internal/reflectlite.Value).IsNil", "(internal/reflectlite.Value).Elem", "(internal/reflectlite.Value).Set"], unfollowed := true, recurses := true, named := ["optima/api.ErrText", "optima/api.ErrBound", "optima/api.ErrZero", "optima/api.ErrShape", "optima/api.ErrSingular", "optima/api.ErrSense", "optima/api.ErrName", "optima/api.ErrNumber", "optima/api.ErrBasis", "optima/api.ErrOpen", "errors.errorType"], apart := false, laid := [("errors.errorType", laid_errors_errorType), ("optima/api.ErrText", laid_optima_api_ErrText), ("optima/api.ErrBound", laid_optima_api_ErrBound), ("optima/api.ErrZero", laid_optima_api_ErrZero), ("optima/api.ErrShape", laid_optima_api_ErrShape), ("optima/api.ErrSingular", laid_optima_api_ErrSingular), ("optima/api.ErrSense", laid_optima_api_ErrSense), ("optima/api.ErrName", laid_optima_api_ErrName), ("optima/api.ErrNumber", laid_optima_api_ErrNumber), ("optima/api.ErrBasis", laid_optima_api_ErrBasis), ("optima/api.ErrOpen", laid_optima_api_ErrOpen)] }
def PlanChecksSaid : Prop := planChecksRow.holds Tryz.pinned (OpenSpec.ofChange planChecksSpec)

/-- ITS FALSE NEIGHBOUR: 'it returns false'. Refute it at one input. -/
def planChecksWrong : ChangeSpec := { name := "planChecks", fn := fun _ => fun
  | [d1, d2, d3, d4, d5, d6] => { results := [.lit (.bool false)], args := [d1, d2, d3, d4, d5, d6] }
  | _ => none }
def PlanChecksWrongFalsely : Prop := planChecksRow.holds Tryz.pinned (OpenSpec.ofChange planChecksWrong)

/-- 'optimalaw1.MatrixProduct': WHATEVER THE INPUT: true; the input reads as it did. -/
def matrixProductSpec : ChangeSpec := { name := "matrixProduct", fn := fun _ => fun
  | [d1, d2] => { results := [.lit (.bool true)], args := [d1, d2] }
  | _ => none }
def matrixProductRow : OpenClaim := { program := "ytlkaaaoeemejoaagreatdoor", sum := "a43fe9c74fcc4bc24707db80f19fe5dbdb3d253f17e91292059b04e6741aa170", func := "optima/optimalaw1.MatrixProduct", spec := "matrixProduct", inPlace := ["internal/reflectlite.TypeOf", "internal/reflectlite.ValueOf", "(internal/reflectlite.Value).Type", "(internal/reflectlite.Value).IsNil", "(internal/reflectlite.Value).Elem", "(internal/reflectlite.Value).Set"], unfollowed := true, recurses := true, named := ["optima/api.ErrText", "optima/api.ErrBound", "optima/api.ErrZero", "optima/api.ErrShape", "optima/api.ErrSingular", "optima/api.ErrSense", "optima/api.ErrName", "optima/api.ErrNumber", "optima/api.ErrBasis", "optima/api.ErrOpen", "errors.errorType"], apart := false, laid := [("errors.errorType", laid_errors_errorType), ("optima/api.ErrText", laid_optima_api_ErrText), ("optima/api.ErrBound", laid_optima_api_ErrBound), ("optima/api.ErrZero", laid_optima_api_ErrZero), ("optima/api.ErrShape", laid_optima_api_ErrShape), ("optima/api.ErrSingular", laid_optima_api_ErrSingular), ("optima/api.ErrSense", laid_optima_api_ErrSense), ("optima/api.ErrName", laid_optima_api_ErrName), ("optima/api.ErrNumber", laid_optima_api_ErrNumber), ("optima/api.ErrBasis", laid_optima_api_ErrBasis), ("optima/api.ErrOpen", laid_optima_api_ErrOpen)] }
def MatrixProductSaid : Prop := matrixProductRow.holds Tryz.pinned (OpenSpec.ofChange matrixProductSpec)

/-- ITS FALSE NEIGHBOUR: 'it returns false'. Refute it at one input. -/
def matrixProductWrong : ChangeSpec := { name := "matrixProduct", fn := fun _ => fun
  | [d1, d2] => { results := [.lit (.bool false)], args := [d1, d2] }
  | _ => none }
def MatrixProductWrongFalsely : Prop := matrixProductRow.holds Tryz.pinned (OpenSpec.ofChange matrixProductWrong)

/-- 'optimalaw3.NetsChecks': WHATEVER THE INPUT: true; the input reads as it did. -/
def netsChecksSpec : ChangeSpec := { name := "netsChecks", fn := fun _ => fun
  | [d1, d2, d3, d4] => { results := [.lit (.bool true)], args := [d1, d2, d3, d4] }
  | _ => none }
def netsChecksRow : OpenClaim := { program := "ytlkaaaoeemejoaagreatdoor", sum := "a43fe9c74fcc4bc24707db80f19fe5dbdb3d253f17e91292059b04e6741aa170", func := "optima/optimalaw3.NetsChecks", spec := "netsChecks", inPlace := ["internal/reflectlite.TypeOf", "internal/reflectlite.ValueOf", "(internal/reflectlite.Value).Type", "(internal/reflectlite.Value).IsNil", "(internal/reflectlite.Value).Elem", "(internal/reflectlite.Value).Set"], unfollowed := true, recurses := true, named := ["optima/api.ErrText", "optima/api.ErrBound", "optima/api.ErrZero", "optima/api.ErrShape", "optima/api.ErrSingular", "optima/api.ErrSense", "optima/api.ErrName", "optima/api.ErrNumber", "optima/api.ErrBasis", "optima/api.ErrOpen", "errors.errorType"], apart := false, laid := [("errors.errorType", laid_errors_errorType), ("optima/api.ErrText", laid_optima_api_ErrText), ("optima/api.ErrBound", laid_optima_api_ErrBound), ("optima/api.ErrZero", laid_optima_api_ErrZero), ("optima/api.ErrShape", laid_optima_api_ErrShape), ("optima/api.ErrSingular", laid_optima_api_ErrSingular), ("optima/api.ErrSense", laid_optima_api_ErrSense), ("optima/api.ErrName", laid_optima_api_ErrName), ("optima/api.ErrNumber", laid_optima_api_ErrNumber), ("optima/api.ErrBasis", laid_optima_api_ErrBasis), ("optima/api.ErrOpen", laid_optima_api_ErrOpen)] }
def NetsChecksSaid : Prop := netsChecksRow.holds Tryz.pinned (OpenSpec.ofChange netsChecksSpec)

/-- ITS FALSE NEIGHBOUR: 'it returns false'. Refute it at one input. -/
def netsChecksWrong : ChangeSpec := { name := "netsChecks", fn := fun _ => fun
  | [d1, d2, d3, d4] => { results := [.lit (.bool false)], args := [d1, d2, d3, d4] }
  | _ => none }
def NetsChecksWrongFalsely : Prop := netsChecksRow.holds Tryz.pinned (OpenSpec.ofChange netsChecksWrong)

/-- 'optimalaw2.WitnessSound': WHATEVER THE INPUT: true; the input reads as it did. -/
def witnessSoundSpec : ChangeSpec := { name := "witnessSound", fn := fun _ => fun
  | [d1, d2, d3] => { results := [.lit (.bool true)], args := [d1, d2, d3] }
  | _ => none }
def witnessSoundRow : OpenClaim := { program := "ytlkaaaoeemejoaagreatdoor", sum := "a43fe9c74fcc4bc24707db80f19fe5dbdb3d253f17e91292059b04e6741aa170", func := "optima/optimalaw2.WitnessSound", spec := "witnessSound", unfollowed := true, recurses := true, named := ["optima/api.ErrText", "optima/api.ErrBound", "optima/api.ErrZero", "optima/api.ErrShape", "optima/api.ErrName"], apart := false, laid := [("optima/api.ErrText", laid_optima_api_ErrText), ("optima/api.ErrBound", laid_optima_api_ErrBound), ("optima/api.ErrZero", laid_optima_api_ErrZero), ("optima/api.ErrShape", laid_optima_api_ErrShape), ("optima/api.ErrName", laid_optima_api_ErrName)] }
def WitnessSoundSaid : Prop := witnessSoundRow.holds Tryz.pinned (OpenSpec.ofChange witnessSoundSpec)

/-- ITS FALSE NEIGHBOUR: 'it returns false'. Refute it at one input. -/
def witnessSoundWrong : ChangeSpec := { name := "witnessSound", fn := fun _ => fun
  | [d1, d2, d3] => { results := [.lit (.bool false)], args := [d1, d2, d3] }
  | _ => none }
def WitnessSoundWrongFalsely : Prop := witnessSoundRow.holds Tryz.pinned (OpenSpec.ofChange witnessSoundWrong)

/-- 'optimalaw1.MatrixReduced': WHATEVER THE INPUT: true; the input reads as it did. -/
def matrixReducedSpec : ChangeSpec := { name := "matrixReduced", fn := fun _ => fun
  | [d] => { results := [.lit (.bool true)], args := [d] }
  | _ => none }
def matrixReducedRow : OpenClaim := { program := "ytlkaaaoeemejoaagreatdoor", sum := "a43fe9c74fcc4bc24707db80f19fe5dbdb3d253f17e91292059b04e6741aa170", func := "optima/optimalaw1.MatrixReduced", spec := "matrixReduced", inPlace := ["internal/reflectlite.TypeOf", "internal/reflectlite.ValueOf", "(internal/reflectlite.Value).Type", "(internal/reflectlite.Value).IsNil", "(internal/reflectlite.Value).Elem", "(internal/reflectlite.Value).Set"], unfollowed := true, recurses := true, named := ["optima/api.ErrText", "optima/api.ErrBound", "optima/api.ErrZero", "optima/api.ErrShape", "optima/api.ErrSingular", "optima/api.ErrSense", "optima/api.ErrName", "optima/api.ErrNumber", "optima/api.ErrBasis", "optima/api.ErrOpen", "errors.errorType"], apart := false, laid := [("errors.errorType", laid_errors_errorType), ("optima/api.ErrText", laid_optima_api_ErrText), ("optima/api.ErrBound", laid_optima_api_ErrBound), ("optima/api.ErrZero", laid_optima_api_ErrZero), ("optima/api.ErrShape", laid_optima_api_ErrShape), ("optima/api.ErrSingular", laid_optima_api_ErrSingular), ("optima/api.ErrSense", laid_optima_api_ErrSense), ("optima/api.ErrName", laid_optima_api_ErrName), ("optima/api.ErrNumber", laid_optima_api_ErrNumber), ("optima/api.ErrBasis", laid_optima_api_ErrBasis), ("optima/api.ErrOpen", laid_optima_api_ErrOpen)] }
def MatrixReducedSaid : Prop := matrixReducedRow.holds Tryz.pinned (OpenSpec.ofChange matrixReducedSpec)

/-- ITS FALSE NEIGHBOUR: 'it returns false'. Refute it at one input. -/
def matrixReducedWrong : ChangeSpec := { name := "matrixReduced", fn := fun _ => fun
  | [d] => { results := [.lit (.bool false)], args := [d] }
  | _ => none }
def MatrixReducedWrongFalsely : Prop := matrixReducedRow.holds Tryz.pinned (OpenSpec.ofChange matrixReducedWrong)

/-- 'optimalaw2.WitnessLimit': WHATEVER THE INPUT: true; the input reads as it did. -/
def witnessLimitSpec : ChangeSpec := { name := "witnessLimit", fn := fun _ => fun
  | [d1, d2] => { results := [.lit (.bool true)], args := [d1, d2] }
  | _ => none }
def witnessLimitRow : OpenClaim := { program := "ytlkaaaoeemejoaagreatdoor", sum := "a43fe9c74fcc4bc24707db80f19fe5dbdb3d253f17e91292059b04e6741aa170", func := "optima/optimalaw2.WitnessLimit", spec := "witnessLimit", inPlace := ["internal/reflectlite.TypeOf", "internal/reflectlite.ValueOf", "(internal/reflectlite.Value).Type", "(internal/reflectlite.Value).IsNil", "(internal/reflectlite.Value).Elem", "(internal/reflectlite.Value).Set"], unfollowed := true, recurses := true, named := ["optima/api.ErrText", "optima/api.ErrBound", "optima/api.ErrZero", "optima/api.ErrShape", "optima/api.ErrName", "optima/api.ErrSingular", "optima/api.ErrSense", "optima/api.ErrNumber", "optima/api.ErrBasis", "optima/api.ErrOpen", "errors.errorType"], apart := false, laid := [("errors.errorType", laid_errors_errorType), ("optima/api.ErrText", laid_optima_api_ErrText), ("optima/api.ErrBound", laid_optima_api_ErrBound), ("optima/api.ErrZero", laid_optima_api_ErrZero), ("optima/api.ErrShape", laid_optima_api_ErrShape), ("optima/api.ErrSingular", laid_optima_api_ErrSingular), ("optima/api.ErrSense", laid_optima_api_ErrSense), ("optima/api.ErrName", laid_optima_api_ErrName), ("optima/api.ErrNumber", laid_optima_api_ErrNumber), ("optima/api.ErrBasis", laid_optima_api_ErrBasis), ("optima/api.ErrOpen", laid_optima_api_ErrOpen)] }
def WitnessLimitSaid : Prop := witnessLimitRow.holds Tryz.pinned (OpenSpec.ofChange witnessLimitSpec)

/-- ITS FALSE NEIGHBOUR: 'it returns false'. Refute it at one input. -/
def witnessLimitWrong : ChangeSpec := { name := "witnessLimit", fn := fun _ => fun
  | [d1, d2] => { results := [.lit (.bool false)], args := [d1, d2] }
  | _ => none }
def WitnessLimitWrongFalsely : Prop := witnessLimitRow.holds Tryz.pinned (OpenSpec.ofChange witnessLimitWrong)

/-- 'optimalaw1.LinearHolds': WHATEVER THE INPUT: true; the input reads as it did. -/
def linearHoldsSpec : ChangeSpec := { name := "linearHolds", fn := fun _ => fun
  | [d1, d2, d3] => { results := [.lit (.bool true)], args := [d1, d2, d3] }
  | _ => none }
def linearHoldsRow : OpenClaim := { program := "ytlkaaaoeemejoaagreatdoor", sum := "a43fe9c74fcc4bc24707db80f19fe5dbdb3d253f17e91292059b04e6741aa170", func := "optima/optimalaw1.LinearHolds", spec := "linearHolds", inPlace := ["internal/reflectlite.TypeOf", "internal/reflectlite.ValueOf", "(internal/reflectlite.Value).Type", "(internal/reflectlite.Value).IsNil", "(internal/reflectlite.Value).Elem", "(internal/reflectlite.Value).Set"], unfollowed := true, recurses := true, named := ["optima/api.ErrText", "optima/api.ErrBound", "optima/api.ErrZero", "optima/api.ErrShape", "optima/api.ErrName", "optima/api.ErrSingular", "optima/api.ErrSense", "optima/api.ErrNumber", "optima/api.ErrBasis", "optima/api.ErrOpen", "errors.errorType"], apart := false, laid := [("errors.errorType", laid_errors_errorType), ("optima/api.ErrText", laid_optima_api_ErrText), ("optima/api.ErrBound", laid_optima_api_ErrBound), ("optima/api.ErrZero", laid_optima_api_ErrZero), ("optima/api.ErrShape", laid_optima_api_ErrShape), ("optima/api.ErrSingular", laid_optima_api_ErrSingular), ("optima/api.ErrSense", laid_optima_api_ErrSense), ("optima/api.ErrName", laid_optima_api_ErrName), ("optima/api.ErrNumber", laid_optima_api_ErrNumber), ("optima/api.ErrBasis", laid_optima_api_ErrBasis), ("optima/api.ErrOpen", laid_optima_api_ErrOpen)] }
def LinearHoldsSaid : Prop := linearHoldsRow.holds Tryz.pinned (OpenSpec.ofChange linearHoldsSpec)

/-- ITS FALSE NEIGHBOUR: 'it returns false'. Refute it at one input. -/
def linearHoldsWrong : ChangeSpec := { name := "linearHolds", fn := fun _ => fun
  | [d1, d2, d3] => { results := [.lit (.bool false)], args := [d1, d2, d3] }
  | _ => none }
def LinearHoldsWrongFalsely : Prop := linearHoldsRow.holds Tryz.pinned (OpenSpec.ofChange linearHoldsWrong)

/- THE SECOND FORM. 'bulk': how many values and letters a reading holds, each counted each time it is reached (what is shared counts as often as it is met; a slice's spare places count too). A statement '..UptoSaid' is the law's where the arguments, and the package variables that the reading takes, are together of bulk at most 1048576: NARROWER than '..Said'. Prove '..Said' where nothing that the law and all that it calls make is longer than what came in: it says more and counts as full. Else prove '..UptoSaid'. A law counts once. -/
mutual
def uptoBulk {H : Type} : DataW H → Nat
  | .lit (.string bytes) => bytes.length + 1
  | .lit _ => 1
  | .nil => 1
  | .ptr d => uptoBulk d + 1
  | .slice elems spare => uptoBulkAll elems + uptoBulkAll spare + 1
  | .agg parts => uptoBulkAll parts + 1
  | .iface _ d => uptoBulk d + 1
  | .map entries => uptoBulkEntries entries + 1
  | .held _ => 1
def uptoBulkAll {H : Type} : List (DataW H) → Nat
  | [] => 0
  | d :: r => uptoBulk d + uptoBulkAll r
def uptoBulkEntries {H : Type} : List (Lit × DataW H) → Nat
  | [] => 0
  | x :: r => uptoBulkEntry x + uptoBulkEntries r
def uptoBulkEntry {H : Type} : Lit × DataW H → Nat
  | (.string bytes, d) => bytes.length + uptoBulk d + 1
  | (_, d) => uptoBulk d + 1
 end
def uptoSmall : (H : Type) → List (DataW H) → Bool := fun _ ds => decide (uptoBulkAll ds ≤ 1048576)
def OpenSpec.upto (s : _root_.Go.ChangeSpec) : _root_.Go.OpenSpec := { _root_.Go.OpenSpec.ofChange s with cond := some uptoSmall }

/-- 'optimalaw3.PlanChecks', WHERE WHAT IT READS IS OF BULK AT MOST 1048576: true; the input reads as it did. -/
def planChecksUptoRow : OpenClaim := { program := "ytlkaaaoeemejoaagreatdoor", sum := "a43fe9c74fcc4bc24707db80f19fe5dbdb3d253f17e91292059b04e6741aa170", func := "optima/optimalaw3.PlanChecks", spec := "planChecks", inPlace := ["internal/reflectlite.TypeOf", "internal/reflectlite.ValueOf", "(internal/reflectlite.Value).Type", "(internal/reflectlite.Value).IsNil", "(internal/reflectlite.Value).Elem", "(internal/reflectlite.Value).Set"], unfollowed := true, recurses := true, named := ["optima/api.ErrText", "optima/api.ErrBound", "optima/api.ErrZero", "optima/api.ErrShape", "optima/api.ErrSingular", "optima/api.ErrSense", "optima/api.ErrName", "optima/api.ErrNumber", "optima/api.ErrBasis", "optima/api.ErrOpen", "errors.errorType"], apart := false, laid := [("errors.errorType", laid_errors_errorType), ("optima/api.ErrText", laid_optima_api_ErrText), ("optima/api.ErrBound", laid_optima_api_ErrBound), ("optima/api.ErrZero", laid_optima_api_ErrZero), ("optima/api.ErrShape", laid_optima_api_ErrShape), ("optima/api.ErrSingular", laid_optima_api_ErrSingular), ("optima/api.ErrSense", laid_optima_api_ErrSense), ("optima/api.ErrName", laid_optima_api_ErrName), ("optima/api.ErrNumber", laid_optima_api_ErrNumber), ("optima/api.ErrBasis", laid_optima_api_ErrBasis), ("optima/api.ErrOpen", laid_optima_api_ErrOpen)], narrowed := true }
def PlanChecksUptoSaid : Prop := planChecksUptoRow.holds Tryz.pinned (OpenSpec.upto planChecksSpec)

/-- 'optimalaw1.MatrixProduct', WHERE WHAT IT READS IS OF BULK AT MOST 1048576: true; the input reads as it did. -/
def matrixProductUptoRow : OpenClaim := { program := "ytlkaaaoeemejoaagreatdoor", sum := "a43fe9c74fcc4bc24707db80f19fe5dbdb3d253f17e91292059b04e6741aa170", func := "optima/optimalaw1.MatrixProduct", spec := "matrixProduct", inPlace := ["internal/reflectlite.TypeOf", "internal/reflectlite.ValueOf", "(internal/reflectlite.Value).Type", "(internal/reflectlite.Value).IsNil", "(internal/reflectlite.Value).Elem", "(internal/reflectlite.Value).Set"], unfollowed := true, recurses := true, named := ["optima/api.ErrText", "optima/api.ErrBound", "optima/api.ErrZero", "optima/api.ErrShape", "optima/api.ErrSingular", "optima/api.ErrSense", "optima/api.ErrName", "optima/api.ErrNumber", "optima/api.ErrBasis", "optima/api.ErrOpen", "errors.errorType"], apart := false, laid := [("errors.errorType", laid_errors_errorType), ("optima/api.ErrText", laid_optima_api_ErrText), ("optima/api.ErrBound", laid_optima_api_ErrBound), ("optima/api.ErrZero", laid_optima_api_ErrZero), ("optima/api.ErrShape", laid_optima_api_ErrShape), ("optima/api.ErrSingular", laid_optima_api_ErrSingular), ("optima/api.ErrSense", laid_optima_api_ErrSense), ("optima/api.ErrName", laid_optima_api_ErrName), ("optima/api.ErrNumber", laid_optima_api_ErrNumber), ("optima/api.ErrBasis", laid_optima_api_ErrBasis), ("optima/api.ErrOpen", laid_optima_api_ErrOpen)], narrowed := true }
def MatrixProductUptoSaid : Prop := matrixProductUptoRow.holds Tryz.pinned (OpenSpec.upto matrixProductSpec)

/-- 'optimalaw3.NetsChecks', WHERE WHAT IT READS IS OF BULK AT MOST 1048576: true; the input reads as it did. -/
def netsChecksUptoRow : OpenClaim := { program := "ytlkaaaoeemejoaagreatdoor", sum := "a43fe9c74fcc4bc24707db80f19fe5dbdb3d253f17e91292059b04e6741aa170", func := "optima/optimalaw3.NetsChecks", spec := "netsChecks", inPlace := ["internal/reflectlite.TypeOf", "internal/reflectlite.ValueOf", "(internal/reflectlite.Value).Type", "(internal/reflectlite.Value).IsNil", "(internal/reflectlite.Value).Elem", "(internal/reflectlite.Value).Set"], unfollowed := true, recurses := true, named := ["optima/api.ErrText", "optima/api.ErrBound", "optima/api.ErrZero", "optima/api.ErrShape", "optima/api.ErrSingular", "optima/api.ErrSense", "optima/api.ErrName", "optima/api.ErrNumber", "optima/api.ErrBasis", "optima/api.ErrOpen", "errors.errorType"], apart := false, laid := [("errors.errorType", laid_errors_errorType), ("optima/api.ErrText", laid_optima_api_ErrText), ("optima/api.ErrBound", laid_optima_api_ErrBound), ("optima/api.ErrZero", laid_optima_api_ErrZero), ("optima/api.ErrShape", laid_optima_api_ErrShape), ("optima/api.ErrSingular", laid_optima_api_ErrSingular), ("optima/api.ErrSense", laid_optima_api_ErrSense), ("optima/api.ErrName", laid_optima_api_ErrName), ("optima/api.ErrNumber", laid_optima_api_ErrNumber), ("optima/api.ErrBasis", laid_optima_api_ErrBasis), ("optima/api.ErrOpen", laid_optima_api_ErrOpen)], narrowed := true }
def NetsChecksUptoSaid : Prop := netsChecksUptoRow.holds Tryz.pinned (OpenSpec.upto netsChecksSpec)

/-- 'optimalaw2.WitnessSound', WHERE WHAT IT READS IS OF BULK AT MOST 1048576: true; the input reads as it did. -/
def witnessSoundUptoRow : OpenClaim := { program := "ytlkaaaoeemejoaagreatdoor", sum := "a43fe9c74fcc4bc24707db80f19fe5dbdb3d253f17e91292059b04e6741aa170", func := "optima/optimalaw2.WitnessSound", spec := "witnessSound", unfollowed := true, recurses := true, named := ["optima/api.ErrText", "optima/api.ErrBound", "optima/api.ErrZero", "optima/api.ErrShape", "optima/api.ErrName"], apart := false, laid := [("optima/api.ErrText", laid_optima_api_ErrText), ("optima/api.ErrBound", laid_optima_api_ErrBound), ("optima/api.ErrZero", laid_optima_api_ErrZero), ("optima/api.ErrShape", laid_optima_api_ErrShape), ("optima/api.ErrName", laid_optima_api_ErrName)], narrowed := true }
def WitnessSoundUptoSaid : Prop := witnessSoundUptoRow.holds Tryz.pinned (OpenSpec.upto witnessSoundSpec)

/-- 'optimalaw1.MatrixReduced', WHERE WHAT IT READS IS OF BULK AT MOST 1048576: true; the input reads as it did. -/
def matrixReducedUptoRow : OpenClaim := { program := "ytlkaaaoeemejoaagreatdoor", sum := "a43fe9c74fcc4bc24707db80f19fe5dbdb3d253f17e91292059b04e6741aa170", func := "optima/optimalaw1.MatrixReduced", spec := "matrixReduced", inPlace := ["internal/reflectlite.TypeOf", "internal/reflectlite.ValueOf", "(internal/reflectlite.Value).Type", "(internal/reflectlite.Value).IsNil", "(internal/reflectlite.Value).Elem", "(internal/reflectlite.Value).Set"], unfollowed := true, recurses := true, named := ["optima/api.ErrText", "optima/api.ErrBound", "optima/api.ErrZero", "optima/api.ErrShape", "optima/api.ErrSingular", "optima/api.ErrSense", "optima/api.ErrName", "optima/api.ErrNumber", "optima/api.ErrBasis", "optima/api.ErrOpen", "errors.errorType"], apart := false, laid := [("errors.errorType", laid_errors_errorType), ("optima/api.ErrText", laid_optima_api_ErrText), ("optima/api.ErrBound", laid_optima_api_ErrBound), ("optima/api.ErrZero", laid_optima_api_ErrZero), ("optima/api.ErrShape", laid_optima_api_ErrShape), ("optima/api.ErrSingular", laid_optima_api_ErrSingular), ("optima/api.ErrSense", laid_optima_api_ErrSense), ("optima/api.ErrName", laid_optima_api_ErrName), ("optima/api.ErrNumber", laid_optima_api_ErrNumber), ("optima/api.ErrBasis", laid_optima_api_ErrBasis), ("optima/api.ErrOpen", laid_optima_api_ErrOpen)], narrowed := true }
def MatrixReducedUptoSaid : Prop := matrixReducedUptoRow.holds Tryz.pinned (OpenSpec.upto matrixReducedSpec)

/-- 'optimalaw2.WitnessLimit', WHERE WHAT IT READS IS OF BULK AT MOST 1048576: true; the input reads as it did. -/
def witnessLimitUptoRow : OpenClaim := { program := "ytlkaaaoeemejoaagreatdoor", sum := "a43fe9c74fcc4bc24707db80f19fe5dbdb3d253f17e91292059b04e6741aa170", func := "optima/optimalaw2.WitnessLimit", spec := "witnessLimit", inPlace := ["internal/reflectlite.TypeOf", "internal/reflectlite.ValueOf", "(internal/reflectlite.Value).Type", "(internal/reflectlite.Value).IsNil", "(internal/reflectlite.Value).Elem", "(internal/reflectlite.Value).Set"], unfollowed := true, recurses := true, named := ["optima/api.ErrText", "optima/api.ErrBound", "optima/api.ErrZero", "optima/api.ErrShape", "optima/api.ErrName", "optima/api.ErrSingular", "optima/api.ErrSense", "optima/api.ErrNumber", "optima/api.ErrBasis", "optima/api.ErrOpen", "errors.errorType"], apart := false, laid := [("errors.errorType", laid_errors_errorType), ("optima/api.ErrText", laid_optima_api_ErrText), ("optima/api.ErrBound", laid_optima_api_ErrBound), ("optima/api.ErrZero", laid_optima_api_ErrZero), ("optima/api.ErrShape", laid_optima_api_ErrShape), ("optima/api.ErrSingular", laid_optima_api_ErrSingular), ("optima/api.ErrSense", laid_optima_api_ErrSense), ("optima/api.ErrName", laid_optima_api_ErrName), ("optima/api.ErrNumber", laid_optima_api_ErrNumber), ("optima/api.ErrBasis", laid_optima_api_ErrBasis), ("optima/api.ErrOpen", laid_optima_api_ErrOpen)], narrowed := true }
def WitnessLimitUptoSaid : Prop := witnessLimitUptoRow.holds Tryz.pinned (OpenSpec.upto witnessLimitSpec)

/-- 'optimalaw1.LinearHolds', WHERE WHAT IT READS IS OF BULK AT MOST 1048576: true; the input reads as it did. -/
def linearHoldsUptoRow : OpenClaim := { program := "ytlkaaaoeemejoaagreatdoor", sum := "a43fe9c74fcc4bc24707db80f19fe5dbdb3d253f17e91292059b04e6741aa170", func := "optima/optimalaw1.LinearHolds", spec := "linearHolds", inPlace := ["internal/reflectlite.TypeOf", "internal/reflectlite.ValueOf", "(internal/reflectlite.Value).Type", "(internal/reflectlite.Value).IsNil", "(internal/reflectlite.Value).Elem", "(internal/reflectlite.Value).Set"], unfollowed := true, recurses := true, named := ["optima/api.ErrText", "optima/api.ErrBound", "optima/api.ErrZero", "optima/api.ErrShape", "optima/api.ErrName", "optima/api.ErrSingular", "optima/api.ErrSense", "optima/api.ErrNumber", "optima/api.ErrBasis", "optima/api.ErrOpen", "errors.errorType"], apart := false, laid := [("errors.errorType", laid_errors_errorType), ("optima/api.ErrText", laid_optima_api_ErrText), ("optima/api.ErrBound", laid_optima_api_ErrBound), ("optima/api.ErrZero", laid_optima_api_ErrZero), ("optima/api.ErrShape", laid_optima_api_ErrShape), ("optima/api.ErrSingular", laid_optima_api_ErrSingular), ("optima/api.ErrSense", laid_optima_api_ErrSense), ("optima/api.ErrName", laid_optima_api_ErrName), ("optima/api.ErrNumber", laid_optima_api_ErrNumber), ("optima/api.ErrBasis", laid_optima_api_ErrBasis), ("optima/api.ErrOpen", laid_optima_api_ErrOpen)], narrowed := true }
def LinearHoldsUptoSaid : Prop := linearHoldsUptoRow.holds Tryz.pinned (OpenSpec.upto linearHoldsSpec)

end Rows
end Go.Proofs.YtlkaaaoeemejoaaGreatDoor
