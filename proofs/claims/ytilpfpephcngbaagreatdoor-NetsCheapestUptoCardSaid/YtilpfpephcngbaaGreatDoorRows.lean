/-
  NARROWER THAN 'FOR EVERY INPUT', by the rows' own cells (each row's printed sentence says how): MatrixReduced: laid · LinearHolds: laid · CutsCombine: laid · WitnessChecks: laid · CutsCover: laid · NetsMost: laid · NetsCheapest: laid · MatrixFactor: laid.
  DERIVED. THE GIVEN ROWS OF THIS SEAT. 8 by the template 'for every input the law returns true; each argument reads behind the call as it read before'; 0 by the template 'total and deterministic' (their statements: YtilpfpephcngbaaGreatDoorTotals.lean).
  GIVEN WITH THE SEED: the statements are not yours to turn. If you find one false, say at which input.
  Laid BY PROGRAM, IN A SANDBOX (cutbox-rows.mjs): the forced cells as the released guide's own fill.sh prints them over the translation feb1a1513d4117d3… (all of the seat's roots in one cut). By AI agents, Wed Nov 11 2026. No macro, syntax, notation, axiom, sorry.
-/
import Derived.Test.YtilpfpephcngbaaGreatDoorChecked
import GoSem.Claim
import GoSem.ClaimJoined
import GoSem.ClaimMapViews
import Derived.JoinedTies
import Derived.KernelRfl
namespace Go.Proofs.YtilpfpephcngbaaGreatDoor
/- THE CELL 'sum', in the pinned program and in every row, IS THE sha256 OF THE DUMP (.gsa) THAT YtilpfpephcngbaaGreatDoorProg.lean LOADS. Nothing in Lean hashes anything: it is a label: what it is worth is what the hold of that sum in a sandbox is worth. -/
noncomputable def Tryz.pinned : Pinned := { name := "ytilpfpephcngbaagreatdoor", sum := "feb1a1513d4117d35fd2b2e8f204b84b1b1089ecd9e1e8ab9c4b64515f87f006", checked := Tryz.checked }
namespace Rows
def none {H : Type} : Left H := { results := [], args := [] }

/- WHAT THE LISTED PACKAGE-LEVEL VARIABLES READ AS WHEN THE CALL BEGINS. Each datum BY PROGRAM (the guide's laid-datum.mjs) off the statement by which the dump's own 'gosem.cut.vars' lays the variable. In a bare row this is a premise. The card (YtilpfpephcngbaaGreatDoorCards.lean) ties it to the program's text. -/
def laid_errors_errorType {H : Type} : DataW H := .iface "internal/reflectlite.rtype" (.agg [.ptr (.lit (.string [101, 114, 114, 111, 114]))])
def laid_optima_api_ErrText {H : Type} : DataW H := .iface "*errors.errorString" (.ptr (.agg [.lit (.string [111, 112, 116, 105, 109, 97, 58, 32, 116, 101, 120, 116])]))
def laid_optima_api_ErrBound {H : Type} : DataW H := .iface "*errors.errorString" (.ptr (.agg [.lit (.string [111, 112, 116, 105, 109, 97, 58, 32, 98, 111, 117, 110, 100])]))
def laid_optima_api_ErrZero {H : Type} : DataW H := .iface "*errors.errorString" (.ptr (.agg [.lit (.string [111, 112, 116, 105, 109, 97, 58, 32, 122, 101, 114, 111])]))
def laid_optima_api_ErrShape {H : Type} : DataW H := .iface "*errors.errorString" (.ptr (.agg [.lit (.string [111, 112, 116, 105, 109, 97, 58, 32, 115, 104, 97, 112, 101])]))
def laid_optima_api_ErrSingular {H : Type} : DataW H := .iface "*errors.errorString" (.ptr (.agg [.lit (.string [111, 112, 116, 105, 109, 97, 58, 32, 115, 105, 110, 103, 117, 108, 97, 114])]))
def laid_optima_api_ErrSense {H : Type} : DataW H := .iface "*errors.errorString" (.ptr (.agg [.lit (.string [111, 112, 116, 105, 109, 97, 58, 32, 115, 101, 110, 115, 101])]))
def laid_optima_api_ErrName {H : Type} : DataW H := .iface "*errors.errorString" (.ptr (.agg [.lit (.string [111, 112, 116, 105, 109, 97, 58, 32, 110, 97, 109, 101])]))
def laid_optima_api_ErrNumber {H : Type} : DataW H := .iface "*errors.errorString" (.ptr (.agg [.lit (.string [111, 112, 116, 105, 109, 97, 58, 32, 110, 117, 109, 98, 101, 114])]))
def laid_optima_api_ErrBasis {H : Type} : DataW H := .iface "*errors.errorString" (.ptr (.agg [.lit (.string [111, 112, 116, 105, 109, 97, 58, 32, 98, 97, 115, 105, 115])]))
def laid_optima_api_ErrOpen {H : Type} : DataW H := .iface "*errors.errorString" (.ptr (.agg [.lit (.string [111, 112, 116, 105, 109, 97, 58, 32, 111, 112, 101, 110])]))

/-- 'optimalaw1.MatrixReduced': WHATEVER THE INPUT: true; the input reads as it did. -/
def matrixReducedSpec : ChangeSpec := { name := "matrixReduced", fn := fun _ => fun
  | [d] => { results := [.lit (.bool true)], args := [d] }
  | _ => none }
def matrixReducedRow : OpenClaim := { program := "ytilpfpephcngbaagreatdoor", sum := "feb1a1513d4117d35fd2b2e8f204b84b1b1089ecd9e1e8ab9c4b64515f87f006", func := "optima/optimalaw1.MatrixReduced", spec := "matrixReduced", inPlace := ["internal/reflectlite.TypeOf", "internal/reflectlite.ValueOf", "(internal/reflectlite.Value).Type", "(internal/reflectlite.Value).IsNil", "(internal/reflectlite.Value).Elem", "(internal/reflectlite.Value).Set"], unfollowed := true, recurses := true, named := ["optima/api.ErrText", "optima/api.ErrBound", "optima/api.ErrZero", "optima/api.ErrShape", "optima/api.ErrSingular", "optima/api.ErrSense", "optima/api.ErrName", "optima/api.ErrNumber", "optima/api.ErrBasis", "optima/api.ErrOpen", "errors.errorType"], apart := false, laid := [("errors.errorType", laid_errors_errorType), ("optima/api.ErrText", laid_optima_api_ErrText), ("optima/api.ErrBound", laid_optima_api_ErrBound), ("optima/api.ErrZero", laid_optima_api_ErrZero), ("optima/api.ErrShape", laid_optima_api_ErrShape), ("optima/api.ErrSingular", laid_optima_api_ErrSingular), ("optima/api.ErrSense", laid_optima_api_ErrSense), ("optima/api.ErrName", laid_optima_api_ErrName), ("optima/api.ErrNumber", laid_optima_api_ErrNumber), ("optima/api.ErrBasis", laid_optima_api_ErrBasis), ("optima/api.ErrOpen", laid_optima_api_ErrOpen)] }
def MatrixReducedSaid : Prop := matrixReducedRow.holds Tryz.pinned (OpenSpec.ofChange matrixReducedSpec)

/-- ITS FALSE NEIGHBOUR: 'it returns false'. Refute it at one input. -/
def matrixReducedWrong : ChangeSpec := { name := "matrixReduced", fn := fun _ => fun
  | [d] => { results := [.lit (.bool false)], args := [d] }
  | _ => none }
def MatrixReducedWrongFalsely : Prop := matrixReducedRow.holds Tryz.pinned (OpenSpec.ofChange matrixReducedWrong)

/-- 'optimalaw1.LinearHolds': WHATEVER THE INPUT: true; the input reads as it did. -/
def linearHoldsSpec : ChangeSpec := { name := "linearHolds", fn := fun _ => fun
  | [d1, d2, d3] => { results := [.lit (.bool true)], args := [d1, d2, d3] }
  | _ => none }
def linearHoldsRow : OpenClaim := { program := "ytilpfpephcngbaagreatdoor", sum := "feb1a1513d4117d35fd2b2e8f204b84b1b1089ecd9e1e8ab9c4b64515f87f006", func := "optima/optimalaw1.LinearHolds", spec := "linearHolds", inPlace := ["internal/reflectlite.TypeOf", "internal/reflectlite.ValueOf", "(internal/reflectlite.Value).Type", "(internal/reflectlite.Value).IsNil", "(internal/reflectlite.Value).Elem", "(internal/reflectlite.Value).Set"], unfollowed := true, recurses := true, named := ["optima/api.ErrText", "optima/api.ErrBound", "optima/api.ErrZero", "optima/api.ErrShape", "optima/api.ErrName", "optima/api.ErrSingular", "optima/api.ErrSense", "optima/api.ErrNumber", "optima/api.ErrBasis", "optima/api.ErrOpen", "errors.errorType"], apart := false, laid := [("errors.errorType", laid_errors_errorType), ("optima/api.ErrText", laid_optima_api_ErrText), ("optima/api.ErrBound", laid_optima_api_ErrBound), ("optima/api.ErrZero", laid_optima_api_ErrZero), ("optima/api.ErrShape", laid_optima_api_ErrShape), ("optima/api.ErrSingular", laid_optima_api_ErrSingular), ("optima/api.ErrSense", laid_optima_api_ErrSense), ("optima/api.ErrName", laid_optima_api_ErrName), ("optima/api.ErrNumber", laid_optima_api_ErrNumber), ("optima/api.ErrBasis", laid_optima_api_ErrBasis), ("optima/api.ErrOpen", laid_optima_api_ErrOpen)] }
def LinearHoldsSaid : Prop := linearHoldsRow.holds Tryz.pinned (OpenSpec.ofChange linearHoldsSpec)

/-- ITS FALSE NEIGHBOUR: 'it returns false'. Refute it at one input. -/
def linearHoldsWrong : ChangeSpec := { name := "linearHolds", fn := fun _ => fun
  | [d1, d2, d3] => { results := [.lit (.bool false)], args := [d1, d2, d3] }
  | _ => none }
def LinearHoldsWrongFalsely : Prop := linearHoldsRow.holds Tryz.pinned (OpenSpec.ofChange linearHoldsWrong)

/-- 'optimalaw2.CutsCombine': WHATEVER THE INPUT: true; the input reads as it did. -/
def cutsCombineSpec : ChangeSpec := { name := "cutsCombine", fn := fun _ => fun
  | [d1, d2, d3] => { results := [.lit (.bool true)], args := [d1, d2, d3] }
  | _ => none }
def cutsCombineRow : OpenClaim := { program := "ytilpfpephcngbaagreatdoor", sum := "feb1a1513d4117d35fd2b2e8f204b84b1b1089ecd9e1e8ab9c4b64515f87f006", func := "optima/optimalaw2.CutsCombine", spec := "cutsCombine", inPlace := ["internal/reflectlite.TypeOf", "internal/reflectlite.ValueOf", "(internal/reflectlite.Value).Type", "(internal/reflectlite.Value).IsNil", "(internal/reflectlite.Value).Elem", "(internal/reflectlite.Value).Set"], unfollowed := true, recurses := true, named := ["optima/api.ErrText", "optima/api.ErrBound", "optima/api.ErrZero", "optima/api.ErrShape", "optima/api.ErrOpen", "optima/api.ErrName", "optima/api.ErrSingular", "optima/api.ErrSense", "optima/api.ErrNumber", "optima/api.ErrBasis", "errors.errorType"], apart := false, laid := [("errors.errorType", laid_errors_errorType), ("optima/api.ErrText", laid_optima_api_ErrText), ("optima/api.ErrBound", laid_optima_api_ErrBound), ("optima/api.ErrZero", laid_optima_api_ErrZero), ("optima/api.ErrShape", laid_optima_api_ErrShape), ("optima/api.ErrSingular", laid_optima_api_ErrSingular), ("optima/api.ErrSense", laid_optima_api_ErrSense), ("optima/api.ErrName", laid_optima_api_ErrName), ("optima/api.ErrNumber", laid_optima_api_ErrNumber), ("optima/api.ErrBasis", laid_optima_api_ErrBasis), ("optima/api.ErrOpen", laid_optima_api_ErrOpen)] }
def CutsCombineSaid : Prop := cutsCombineRow.holds Tryz.pinned (OpenSpec.ofChange cutsCombineSpec)

/-- ITS FALSE NEIGHBOUR: 'it returns false'. Refute it at one input. -/
def cutsCombineWrong : ChangeSpec := { name := "cutsCombine", fn := fun _ => fun
  | [d1, d2, d3] => { results := [.lit (.bool false)], args := [d1, d2, d3] }
  | _ => none }
def CutsCombineWrongFalsely : Prop := cutsCombineRow.holds Tryz.pinned (OpenSpec.ofChange cutsCombineWrong)

/-- 'optimalaw2.WitnessChecks': WHATEVER THE INPUT: true; the input reads as it did. -/
def witnessChecksSpec : ChangeSpec := { name := "witnessChecks", fn := fun _ => fun
  | [d1, d2] => { results := [.lit (.bool true)], args := [d1, d2] }
  | _ => none }
def witnessChecksRow : OpenClaim := { program := "ytilpfpephcngbaagreatdoor", sum := "feb1a1513d4117d35fd2b2e8f204b84b1b1089ecd9e1e8ab9c4b64515f87f006", func := "optima/optimalaw2.WitnessChecks", spec := "witnessChecks", inPlace := ["internal/reflectlite.TypeOf", "internal/reflectlite.ValueOf", "(internal/reflectlite.Value).Type", "(internal/reflectlite.Value).IsNil", "(internal/reflectlite.Value).Elem", "(internal/reflectlite.Value).Set"], unfollowed := true, recurses := true, named := ["optima/api.ErrText", "optima/api.ErrBound", "optima/api.ErrZero", "optima/api.ErrShape", "optima/api.ErrName", "optima/api.ErrSingular", "optima/api.ErrSense", "optima/api.ErrNumber", "optima/api.ErrBasis", "optima/api.ErrOpen", "errors.errorType"], apart := false, laid := [("errors.errorType", laid_errors_errorType), ("optima/api.ErrText", laid_optima_api_ErrText), ("optima/api.ErrBound", laid_optima_api_ErrBound), ("optima/api.ErrZero", laid_optima_api_ErrZero), ("optima/api.ErrShape", laid_optima_api_ErrShape), ("optima/api.ErrSingular", laid_optima_api_ErrSingular), ("optima/api.ErrSense", laid_optima_api_ErrSense), ("optima/api.ErrName", laid_optima_api_ErrName), ("optima/api.ErrNumber", laid_optima_api_ErrNumber), ("optima/api.ErrBasis", laid_optima_api_ErrBasis), ("optima/api.ErrOpen", laid_optima_api_ErrOpen)] }
def WitnessChecksSaid : Prop := witnessChecksRow.holds Tryz.pinned (OpenSpec.ofChange witnessChecksSpec)

/-- ITS FALSE NEIGHBOUR: 'it returns false'. Refute it at one input. -/
def witnessChecksWrong : ChangeSpec := { name := "witnessChecks", fn := fun _ => fun
  | [d1, d2] => { results := [.lit (.bool false)], args := [d1, d2] }
  | _ => none }
def WitnessChecksWrongFalsely : Prop := witnessChecksRow.holds Tryz.pinned (OpenSpec.ofChange witnessChecksWrong)

/-- 'optimalaw2.CutsCover': WHATEVER THE INPUT: true; the input reads as it did. -/
def cutsCoverSpec : ChangeSpec := { name := "cutsCover", fn := fun _ => fun
  | [d1, d2, d3, d4] => { results := [.lit (.bool true)], args := [d1, d2, d3, d4] }
  | _ => none }
def cutsCoverRow : OpenClaim := { program := "ytilpfpephcngbaagreatdoor", sum := "feb1a1513d4117d35fd2b2e8f204b84b1b1089ecd9e1e8ab9c4b64515f87f006", func := "optima/optimalaw2.CutsCover", spec := "cutsCover", inPlace := ["internal/reflectlite.TypeOf", "internal/reflectlite.ValueOf", "(internal/reflectlite.Value).Type", "(internal/reflectlite.Value).IsNil", "(internal/reflectlite.Value).Elem", "(internal/reflectlite.Value).Set"], unfollowed := true, recurses := true, named := ["optima/api.ErrText", "optima/api.ErrBound", "optima/api.ErrZero", "optima/api.ErrShape", "optima/api.ErrOpen", "optima/api.ErrName", "optima/api.ErrSingular", "optima/api.ErrSense", "optima/api.ErrNumber", "optima/api.ErrBasis", "errors.errorType"], apart := false, laid := [("errors.errorType", laid_errors_errorType), ("optima/api.ErrText", laid_optima_api_ErrText), ("optima/api.ErrBound", laid_optima_api_ErrBound), ("optima/api.ErrZero", laid_optima_api_ErrZero), ("optima/api.ErrShape", laid_optima_api_ErrShape), ("optima/api.ErrSingular", laid_optima_api_ErrSingular), ("optima/api.ErrSense", laid_optima_api_ErrSense), ("optima/api.ErrName", laid_optima_api_ErrName), ("optima/api.ErrNumber", laid_optima_api_ErrNumber), ("optima/api.ErrBasis", laid_optima_api_ErrBasis), ("optima/api.ErrOpen", laid_optima_api_ErrOpen)] }
def CutsCoverSaid : Prop := cutsCoverRow.holds Tryz.pinned (OpenSpec.ofChange cutsCoverSpec)

/-- ITS FALSE NEIGHBOUR: 'it returns false'. Refute it at one input. -/
def cutsCoverWrong : ChangeSpec := { name := "cutsCover", fn := fun _ => fun
  | [d1, d2, d3, d4] => { results := [.lit (.bool false)], args := [d1, d2, d3, d4] }
  | _ => none }
def CutsCoverWrongFalsely : Prop := cutsCoverRow.holds Tryz.pinned (OpenSpec.ofChange cutsCoverWrong)

/-- 'optimalaw3.NetsMost': WHATEVER THE INPUT: true; the input reads as it did. -/
def netsMostSpec : ChangeSpec := { name := "netsMost", fn := fun _ => fun
  | [d1, d2, d3, d4] => { results := [.lit (.bool true)], args := [d1, d2, d3, d4] }
  | _ => none }
def netsMostRow : OpenClaim := { program := "ytilpfpephcngbaagreatdoor", sum := "feb1a1513d4117d35fd2b2e8f204b84b1b1089ecd9e1e8ab9c4b64515f87f006", func := "optima/optimalaw3.NetsMost", spec := "netsMost", inPlace := ["internal/reflectlite.TypeOf", "internal/reflectlite.ValueOf", "(internal/reflectlite.Value).Type", "(internal/reflectlite.Value).IsNil", "(internal/reflectlite.Value).Elem", "(internal/reflectlite.Value).Set"], unfollowed := true, recurses := true, named := ["optima/api.ErrText", "optima/api.ErrBound", "optima/api.ErrZero", "optima/api.ErrShape", "optima/api.ErrSingular", "optima/api.ErrSense", "optima/api.ErrName", "optima/api.ErrNumber", "optima/api.ErrBasis", "optima/api.ErrOpen", "errors.errorType"], apart := false, laid := [("errors.errorType", laid_errors_errorType), ("optima/api.ErrText", laid_optima_api_ErrText), ("optima/api.ErrBound", laid_optima_api_ErrBound), ("optima/api.ErrZero", laid_optima_api_ErrZero), ("optima/api.ErrShape", laid_optima_api_ErrShape), ("optima/api.ErrSingular", laid_optima_api_ErrSingular), ("optima/api.ErrSense", laid_optima_api_ErrSense), ("optima/api.ErrName", laid_optima_api_ErrName), ("optima/api.ErrNumber", laid_optima_api_ErrNumber), ("optima/api.ErrBasis", laid_optima_api_ErrBasis), ("optima/api.ErrOpen", laid_optima_api_ErrOpen)] }
def NetsMostSaid : Prop := netsMostRow.holds Tryz.pinned (OpenSpec.ofChange netsMostSpec)

/-- ITS FALSE NEIGHBOUR: 'it returns false'. Refute it at one input. -/
def netsMostWrong : ChangeSpec := { name := "netsMost", fn := fun _ => fun
  | [d1, d2, d3, d4] => { results := [.lit (.bool false)], args := [d1, d2, d3, d4] }
  | _ => none }
def NetsMostWrongFalsely : Prop := netsMostRow.holds Tryz.pinned (OpenSpec.ofChange netsMostWrong)

/-- 'optimalaw3.NetsCheapest': WHATEVER THE INPUT: true; the input reads as it did. -/
def netsCheapestSpec : ChangeSpec := { name := "netsCheapest", fn := fun _ => fun
  | [d1, d2, d3] => { results := [.lit (.bool true)], args := [d1, d2, d3] }
  | _ => none }
def netsCheapestRow : OpenClaim := { program := "ytilpfpephcngbaagreatdoor", sum := "feb1a1513d4117d35fd2b2e8f204b84b1b1089ecd9e1e8ab9c4b64515f87f006", func := "optima/optimalaw3.NetsCheapest", spec := "netsCheapest", inPlace := ["internal/reflectlite.TypeOf", "internal/reflectlite.ValueOf", "(internal/reflectlite.Value).Type", "(internal/reflectlite.Value).IsNil", "(internal/reflectlite.Value).Elem", "(internal/reflectlite.Value).Set"], unfollowed := true, recurses := true, named := ["optima/api.ErrText", "optima/api.ErrBound", "optima/api.ErrZero", "optima/api.ErrShape", "optima/api.ErrSingular", "optima/api.ErrSense", "optima/api.ErrName", "optima/api.ErrNumber", "optima/api.ErrBasis", "optima/api.ErrOpen", "errors.errorType"], apart := false, laid := [("errors.errorType", laid_errors_errorType), ("optima/api.ErrText", laid_optima_api_ErrText), ("optima/api.ErrBound", laid_optima_api_ErrBound), ("optima/api.ErrZero", laid_optima_api_ErrZero), ("optima/api.ErrShape", laid_optima_api_ErrShape), ("optima/api.ErrSingular", laid_optima_api_ErrSingular), ("optima/api.ErrSense", laid_optima_api_ErrSense), ("optima/api.ErrName", laid_optima_api_ErrName), ("optima/api.ErrNumber", laid_optima_api_ErrNumber), ("optima/api.ErrBasis", laid_optima_api_ErrBasis), ("optima/api.ErrOpen", laid_optima_api_ErrOpen)] }
def NetsCheapestSaid : Prop := netsCheapestRow.holds Tryz.pinned (OpenSpec.ofChange netsCheapestSpec)

/-- ITS FALSE NEIGHBOUR: 'it returns false'. Refute it at one input. -/
def netsCheapestWrong : ChangeSpec := { name := "netsCheapest", fn := fun _ => fun
  | [d1, d2, d3] => { results := [.lit (.bool false)], args := [d1, d2, d3] }
  | _ => none }
def NetsCheapestWrongFalsely : Prop := netsCheapestRow.holds Tryz.pinned (OpenSpec.ofChange netsCheapestWrong)

/-- 'optimalaw1.MatrixFactor': WHATEVER THE INPUT: true; the input reads as it did. -/
def matrixFactorSpec : ChangeSpec := { name := "matrixFactor", fn := fun _ => fun
  | [d1, d2, d3, d4, d5] => { results := [.lit (.bool true)], args := [d1, d2, d3, d4, d5] }
  | _ => none }
def matrixFactorRow : OpenClaim := { program := "ytilpfpephcngbaagreatdoor", sum := "feb1a1513d4117d35fd2b2e8f204b84b1b1089ecd9e1e8ab9c4b64515f87f006", func := "optima/optimalaw1.MatrixFactor", spec := "matrixFactor", inPlace := ["internal/reflectlite.TypeOf", "internal/reflectlite.ValueOf", "(internal/reflectlite.Value).Type", "(internal/reflectlite.Value).IsNil", "(internal/reflectlite.Value).Elem", "(internal/reflectlite.Value).Set"], unfollowed := true, recurses := true, named := ["optima/api.ErrText", "optima/api.ErrBound", "optima/api.ErrZero", "optima/api.ErrShape", "optima/api.ErrSingular", "optima/api.ErrSense", "optima/api.ErrName", "optima/api.ErrNumber", "optima/api.ErrBasis", "optima/api.ErrOpen", "errors.errorType"], apart := false, laid := [("errors.errorType", laid_errors_errorType), ("optima/api.ErrText", laid_optima_api_ErrText), ("optima/api.ErrBound", laid_optima_api_ErrBound), ("optima/api.ErrZero", laid_optima_api_ErrZero), ("optima/api.ErrShape", laid_optima_api_ErrShape), ("optima/api.ErrSingular", laid_optima_api_ErrSingular), ("optima/api.ErrSense", laid_optima_api_ErrSense), ("optima/api.ErrName", laid_optima_api_ErrName), ("optima/api.ErrNumber", laid_optima_api_ErrNumber), ("optima/api.ErrBasis", laid_optima_api_ErrBasis), ("optima/api.ErrOpen", laid_optima_api_ErrOpen)] }
def MatrixFactorSaid : Prop := matrixFactorRow.holds Tryz.pinned (OpenSpec.ofChange matrixFactorSpec)

/-- ITS FALSE NEIGHBOUR: 'it returns false'. Refute it at one input. -/
def matrixFactorWrong : ChangeSpec := { name := "matrixFactor", fn := fun _ => fun
  | [d1, d2, d3, d4, d5] => { results := [.lit (.bool false)], args := [d1, d2, d3, d4, d5] }
  | _ => none }
def MatrixFactorWrongFalsely : Prop := matrixFactorRow.holds Tryz.pinned (OpenSpec.ofChange matrixFactorWrong)

/- THE SECOND FORM. 'bulk': how many values and letters a reading holds, each counted each time it is reached (what is shared counts as often as it is met; a slice's spare places count too). A statement '..UptoSaid' is the law's where the arguments, and the package variables that the reading takes, are together of bulk at most 1048576: NARROWER than '..Said'. Prove '..Said' where nothing that the law and all that it calls make is longer than what came in: it says more and counts as full. Else prove '..UptoSaid'. A law counts once. -/
mutual
def uptoBulk {H : Type} : DataW H → Nat
  | .lit (.string bytes) => bytes.length + 1
  | .lit _ => 1
  | .nil => 1
  | .ptr d => uptoBulk d + 1
  | .slice elems spare => uptoBulkAll elems + uptoBulkAll spare + 1
  | .agg parts => uptoBulkAll parts + 1
  | .iface _ d => uptoBulk d + 1
  | .map entries => uptoBulkEntries entries + 1
  | .held _ => 1
def uptoBulkAll {H : Type} : List (DataW H) → Nat
  | [] => 0
  | d :: r => uptoBulk d + uptoBulkAll r
def uptoBulkEntries {H : Type} : List (Lit × DataW H) → Nat
  | [] => 0
  | x :: r => uptoBulkEntry x + uptoBulkEntries r
def uptoBulkEntry {H : Type} : Lit × DataW H → Nat
  | (.string bytes, d) => bytes.length + uptoBulk d + 1
  | (_, d) => uptoBulk d + 1
 end
def uptoSmall : (H : Type) → List (DataW H) → Bool := fun _ ds => decide (uptoBulkAll ds ≤ 1048576)
def OpenSpec.upto (s : _root_.Go.ChangeSpec) : _root_.Go.OpenSpec := { _root_.Go.OpenSpec.ofChange s with cond := some uptoSmall }

/-- 'optimalaw1.MatrixReduced', WHERE WHAT IT READS IS OF BULK AT MOST 1048576: true; the input reads as it did. -/
def matrixReducedUptoRow : OpenClaim := { program := "ytilpfpephcngbaagreatdoor", sum := "feb1a1513d4117d35fd2b2e8f204b84b1b1089ecd9e1e8ab9c4b64515f87f006", func := "optima/optimalaw1.MatrixReduced", spec := "matrixReduced", inPlace := ["internal/reflectlite.TypeOf", "internal/reflectlite.ValueOf", "(internal/reflectlite.Value).Type", "(internal/reflectlite.Value).IsNil", "(internal/reflectlite.Value).Elem", "(internal/reflectlite.Value).Set"], unfollowed := true, recurses := true, named := ["optima/api.ErrText", "optima/api.ErrBound", "optima/api.ErrZero", "optima/api.ErrShape", "optima/api.ErrSingular", "optima/api.ErrSense", "optima/api.ErrName", "optima/api.ErrNumber", "optima/api.ErrBasis", "optima/api.ErrOpen", "errors.errorType"], apart := false, laid := [("errors.errorType", laid_errors_errorType), ("optima/api.ErrText", laid_optima_api_ErrText), ("optima/api.ErrBound", laid_optima_api_ErrBound), ("optima/api.ErrZero", laid_optima_api_ErrZero), ("optima/api.ErrShape", laid_optima_api_ErrShape), ("optima/api.ErrSingular", laid_optima_api_ErrSingular), ("optima/api.ErrSense", laid_optima_api_ErrSense), ("optima/api.ErrName", laid_optima_api_ErrName), ("optima/api.ErrNumber", laid_optima_api_ErrNumber), ("optima/api.ErrBasis", laid_optima_api_ErrBasis), ("optima/api.ErrOpen", laid_optima_api_ErrOpen)], narrowed := true }
def MatrixReducedUptoSaid : Prop := matrixReducedUptoRow.holds Tryz.pinned (OpenSpec.upto matrixReducedSpec)

/-- 'optimalaw1.LinearHolds', WHERE WHAT IT READS IS OF BULK AT MOST 1048576: true; the input reads as it did. -/
def linearHoldsUptoRow : OpenClaim := { program := "ytilpfpephcngbaagreatdoor", sum := "feb1a1513d4117d35fd2b2e8f204b84b1b1089ecd9e1e8ab9c4b64515f87f006", func := "optima/optimalaw1.LinearHolds", spec := "linearHolds", inPlace := ["internal/reflectlite.TypeOf", "internal/reflectlite.ValueOf", "(internal/reflectlite.Value).Type", "(internal/reflectlite.Value).IsNil", "(internal/reflectlite.Value).Elem", "(internal/reflectlite.Value).Set"], unfollowed := true, recurses := true, named := ["optima/api.ErrText", "optima/api.ErrBound", "optima/api.ErrZero", "optima/api.ErrShape", "optima/api.ErrName", "optima/api.ErrSingular", "optima/api.ErrSense", "optima/api.ErrNumber", "optima/api.ErrBasis", "optima/api.ErrOpen", "errors.errorType"], apart := false, laid := [("errors.errorType", laid_errors_errorType), ("optima/api.ErrText", laid_optima_api_ErrText), ("optima/api.ErrBound", laid_optima_api_ErrBound), ("optima/api.ErrZero", laid_optima_api_ErrZero), ("optima/api.ErrShape", laid_optima_api_ErrShape), ("optima/api.ErrSingular", laid_optima_api_ErrSingular), ("optima/api.ErrSense", laid_optima_api_ErrSense), ("optima/api.ErrName", laid_optima_api_ErrName), ("optima/api.ErrNumber", laid_optima_api_ErrNumber), ("optima/api.ErrBasis", laid_optima_api_ErrBasis), ("optima/api.ErrOpen", laid_optima_api_ErrOpen)], narrowed := true }
def LinearHoldsUptoSaid : Prop := linearHoldsUptoRow.holds Tryz.pinned (OpenSpec.upto linearHoldsSpec)

/-- 'optimalaw2.CutsCombine', WHERE WHAT IT READS IS OF BULK AT MOST 1048576: true; the input reads as it did. -/
def cutsCombineUptoRow : OpenClaim := { program := "ytilpfpephcngbaagreatdoor", sum := "feb1a1513d4117d35fd2b2e8f204b84b1b1089ecd9e1e8ab9c4b64515f87f006", func := "optima/optimalaw2.CutsCombine", spec := "cutsCombine", inPlace := ["internal/reflectlite.TypeOf", "internal/reflectlite.ValueOf", "(internal/reflectlite.Value).Type", "(internal/reflectlite.Value).IsNil", "(internal/reflectlite.Value).Elem", "(internal/reflectlite.Value).Set"], unfollowed := true, recurses := true, named := ["optima/api.ErrText", "optima/api.ErrBound", "optima/api.ErrZero", "optima/api.ErrShape", "optima/api.ErrOpen", "optima/api.ErrName", "optima/api.ErrSingular", "optima/api.ErrSense", "optima/api.ErrNumber", "optima/api.ErrBasis", "errors.errorType"], apart := false, laid := [("errors.errorType", laid_errors_errorType), ("optima/api.ErrText", laid_optima_api_ErrText), ("optima/api.ErrBound", laid_optima_api_ErrBound), ("optima/api.ErrZero", laid_optima_api_ErrZero), ("optima/api.ErrShape", laid_optima_api_ErrShape), ("optima/api.ErrSingular", laid_optima_api_ErrSingular), ("optima/api.ErrSense", laid_optima_api_ErrSense), ("optima/api.ErrName", laid_optima_api_ErrName), ("optima/api.ErrNumber", laid_optima_api_ErrNumber), ("optima/api.ErrBasis", laid_optima_api_ErrBasis), ("optima/api.ErrOpen", laid_optima_api_ErrOpen)], narrowed := true }
def CutsCombineUptoSaid : Prop := cutsCombineUptoRow.holds Tryz.pinned (OpenSpec.upto cutsCombineSpec)

/-- 'optimalaw2.WitnessChecks', WHERE WHAT IT READS IS OF BULK AT MOST 1048576: true; the input reads as it did. -/
def witnessChecksUptoRow : OpenClaim := { program := "ytilpfpephcngbaagreatdoor", sum := "feb1a1513d4117d35fd2b2e8f204b84b1b1089ecd9e1e8ab9c4b64515f87f006", func := "optima/optimalaw2.WitnessChecks", spec := "witnessChecks", inPlace := ["internal/reflectlite.TypeOf", "internal/reflectlite.ValueOf", "(internal/reflectlite.Value).Type", "(internal/reflectlite.Value).IsNil", "(internal/reflectlite.Value).Elem", "(internal/reflectlite.Value).Set"], unfollowed := true, recurses := true, named := ["optima/api.ErrText", "optima/api.ErrBound", "optima/api.ErrZero", "optima/api.ErrShape", "optima/api.ErrName", "optima/api.ErrSingular", "optima/api.ErrSense", "optima/api.ErrNumber", "optima/api.ErrBasis", "optima/api.ErrOpen", "errors.errorType"], apart := false, laid := [("errors.errorType", laid_errors_errorType), ("optima/api.ErrText", laid_optima_api_ErrText), ("optima/api.ErrBound", laid_optima_api_ErrBound), ("optima/api.ErrZero", laid_optima_api_ErrZero), ("optima/api.ErrShape", laid_optima_api_ErrShape), ("optima/api.ErrSingular", laid_optima_api_ErrSingular), ("optima/api.ErrSense", laid_optima_api_ErrSense), ("optima/api.ErrName", laid_optima_api_ErrName), ("optima/api.ErrNumber", laid_optima_api_ErrNumber), ("optima/api.ErrBasis", laid_optima_api_ErrBasis), ("optima/api.ErrOpen", laid_optima_api_ErrOpen)], narrowed := true }
def WitnessChecksUptoSaid : Prop := witnessChecksUptoRow.holds Tryz.pinned (OpenSpec.upto witnessChecksSpec)

/-- 'optimalaw2.CutsCover', WHERE WHAT IT READS IS OF BULK AT MOST 1048576: true; the input reads as it did. -/
def cutsCoverUptoRow : OpenClaim := { program := "ytilpfpephcngbaagreatdoor", sum := "feb1a1513d4117d35fd2b2e8f204b84b1b1089ecd9e1e8ab9c4b64515f87f006", func := "optima/optimalaw2.CutsCover", spec := "cutsCover", inPlace := ["internal/reflectlite.TypeOf", "internal/reflectlite.ValueOf", "(internal/reflectlite.Value).Type", "(internal/reflectlite.Value).IsNil", "(internal/reflectlite.Value).Elem", "(internal/reflectlite.Value).Set"], unfollowed := true, recurses := true, named := ["optima/api.ErrText", "optima/api.ErrBound", "optima/api.ErrZero", "optima/api.ErrShape", "optima/api.ErrOpen", "optima/api.ErrName", "optima/api.ErrSingular", "optima/api.ErrSense", "optima/api.ErrNumber", "optima/api.ErrBasis", "errors.errorType"], apart := false, laid := [("errors.errorType", laid_errors_errorType), ("optima/api.ErrText", laid_optima_api_ErrText), ("optima/api.ErrBound", laid_optima_api_ErrBound), ("optima/api.ErrZero", laid_optima_api_ErrZero), ("optima/api.ErrShape", laid_optima_api_ErrShape), ("optima/api.ErrSingular", laid_optima_api_ErrSingular), ("optima/api.ErrSense", laid_optima_api_ErrSense), ("optima/api.ErrName", laid_optima_api_ErrName), ("optima/api.ErrNumber", laid_optima_api_ErrNumber), ("optima/api.ErrBasis", laid_optima_api_ErrBasis), ("optima/api.ErrOpen", laid_optima_api_ErrOpen)], narrowed := true }
def CutsCoverUptoSaid : Prop := cutsCoverUptoRow.holds Tryz.pinned (OpenSpec.upto cutsCoverSpec)

/-- 'optimalaw3.NetsMost', WHERE WHAT IT READS IS OF BULK AT MOST 1048576: true; the input reads as it did. -/
def netsMostUptoRow : OpenClaim := { program := "ytilpfpephcngbaagreatdoor", sum := "feb1a1513d4117d35fd2b2e8f204b84b1b1089ecd9e1e8ab9c4b64515f87f006", func := "optima/optimalaw3.NetsMost", spec := "netsMost", inPlace := ["internal/reflectlite.TypeOf", "internal/reflectlite.ValueOf", "(internal/reflectlite.Value).Type", "(internal/reflectlite.Value).IsNil", "(internal/reflectlite.Value).Elem", "(internal/reflectlite.Value).Set"], unfollowed := true, recurses := true, named := ["optima/api.ErrText", "optima/api.ErrBound", "optima/api.ErrZero", "optima/api.ErrShape", "optima/api.ErrSingular", "optima/api.ErrSense", "optima/api.ErrName", "optima/api.ErrNumber", "optima/api.ErrBasis", "optima/api.ErrOpen", "errors.errorType"], apart := false, laid := [("errors.errorType", laid_errors_errorType), ("optima/api.ErrText", laid_optima_api_ErrText), ("optima/api.ErrBound", laid_optima_api_ErrBound), ("optima/api.ErrZero", laid_optima_api_ErrZero), ("optima/api.ErrShape", laid_optima_api_ErrShape), ("optima/api.ErrSingular", laid_optima_api_ErrSingular), ("optima/api.ErrSense", laid_optima_api_ErrSense), ("optima/api.ErrName", laid_optima_api_ErrName), ("optima/api.ErrNumber", laid_optima_api_ErrNumber), ("optima/api.ErrBasis", laid_optima_api_ErrBasis), ("optima/api.ErrOpen", laid_optima_api_ErrOpen)], narrowed := true }
def NetsMostUptoSaid : Prop := netsMostUptoRow.holds Tryz.pinned (OpenSpec.upto netsMostSpec)

/-- 'optimalaw3.NetsCheapest', WHERE WHAT IT READS IS OF BULK AT MOST 1048576: true; the input reads as it did. -/
def netsCheapestUptoRow : OpenClaim := { program := "ytilpfpephcngbaagreatdoor", sum := "feb1a1513d4117d35fd2b2e8f204b84b1b1089ecd9e1e8ab9c4b64515f87f006", func := "optima/optimalaw3.NetsCheapest", spec := "netsCheapest", inPlace := ["internal/reflectlite.TypeOf", "internal/reflectlite.ValueOf", "(internal/reflectlite.Value).Type", "(internal/reflectlite.Value).IsNil", "(internal/reflectlite.Value).Elem", "(internal/reflectlite.Value).Set"], unfollowed := true, recurses := true, named := ["optima/api.ErrText", "optima/api.ErrBound", "optima/api.ErrZero", "optima/api.ErrShape", "optima/api.ErrSingular", "optima/api.ErrSense", "optima/api.ErrName", "optima/api.ErrNumber", "optima/api.ErrBasis", "optima/api.ErrOpen", "errors.errorType"], apart := false, laid := [("errors.errorType", laid_errors_errorType), ("optima/api.ErrText", laid_optima_api_ErrText), ("optima/api.ErrBound", laid_optima_api_ErrBound), ("optima/api.ErrZero", laid_optima_api_ErrZero), ("optima/api.ErrShape", laid_optima_api_ErrShape), ("optima/api.ErrSingular", laid_optima_api_ErrSingular), ("optima/api.ErrSense", laid_optima_api_ErrSense), ("optima/api.ErrName", laid_optima_api_ErrName), ("optima/api.ErrNumber", laid_optima_api_ErrNumber), ("optima/api.ErrBasis", laid_optima_api_ErrBasis), ("optima/api.ErrOpen", laid_optima_api_ErrOpen)], narrowed := true }
def NetsCheapestUptoSaid : Prop := netsCheapestUptoRow.holds Tryz.pinned (OpenSpec.upto netsCheapestSpec)

/-- 'optimalaw1.MatrixFactor', WHERE WHAT IT READS IS OF BULK AT MOST 1048576: true; the input reads as it did. -/
def matrixFactorUptoRow : OpenClaim := { program := "ytilpfpephcngbaagreatdoor", sum := "feb1a1513d4117d35fd2b2e8f204b84b1b1089ecd9e1e8ab9c4b64515f87f006", func := "optima/optimalaw1.MatrixFactor", spec := "matrixFactor", inPlace := ["internal/reflectlite.TypeOf", "internal/reflectlite.ValueOf", "(internal/reflectlite.Value).Type", "(internal/reflectlite.Value).IsNil", "(internal/reflectlite.Value).Elem", "(internal/reflectlite.Value).Set"], unfollowed := true, recurses := true, named := ["optima/api.ErrText", "optima/api.ErrBound", "optima/api.ErrZero", "optima/api.ErrShape", "optima/api.ErrSingular", "optima/api.ErrSense", "optima/api.ErrName", "optima/api.ErrNumber", "optima/api.ErrBasis", "optima/api.ErrOpen", "errors.errorType"], apart := false, laid := [("errors.errorType", laid_errors_errorType), ("optima/api.ErrText", laid_optima_api_ErrText), ("optima/api.ErrBound", laid_optima_api_ErrBound), ("optima/api.ErrZero", laid_optima_api_ErrZero), ("optima/api.ErrShape", laid_optima_api_ErrShape), ("optima/api.ErrSingular", laid_optima_api_ErrSingular), ("optima/api.ErrSense", laid_optima_api_ErrSense), ("optima/api.ErrName", laid_optima_api_ErrName), ("optima/api.ErrNumber", laid_optima_api_ErrNumber), ("optima/api.ErrBasis", laid_optima_api_ErrBasis), ("optima/api.ErrOpen", laid_optima_api_ErrOpen)], narrowed := true }
def MatrixFactorUptoSaid : Prop := matrixFactorUptoRow.holds Tryz.pinned (OpenSpec.upto matrixFactorSpec)

end Rows
end Go.Proofs.YtilpfpephcngbaaGreatDoor
