/-
  NARROWER THAN 'FOR EVERY INPUT', by the rows' own cells (each row's printed sentence says how): PresolveTold: laid · PresolveBack: laid.
  DERIVED. THE GIVEN ROWS OF THIS SEAT. 2 by the template 'for every input the law returns true; each argument reads behind the call as it read before'; 0 by the template 'total and deterministic' (their statements: YtmghjkkjaolpgaaGreatDoorTotals.lean).
  GIVEN WITH THE SEED: the statements are not yours to turn. If you find one false, say at which input.
  Laid BY PROGRAM, IN A SANDBOX (cutbox-rows.mjs): the forced cells as the released guide's own fill.sh prints them over the translation 217ce575f569e133… (all of the seat's roots in one cut). By AI agents, Wed Nov 11 2026. No macro, syntax, notation, axiom, sorry.
-/
import Derived.Test.YtmghjkkjaolpgaaGreatDoorChecked
import GoSem.Claim
import GoSem.ClaimJoined
import GoSem.ClaimMapViews
import Derived.JoinedTies
import Derived.KernelRfl
namespace Go.Proofs.YtmghjkkjaolpgaaGreatDoor
/- THE CELL 'sum', in the pinned program and in every row, IS THE sha256 OF THE DUMP (.gsa) THAT YtmghjkkjaolpgaaGreatDoorProg.lean LOADS. Nothing in Lean hashes anything: it is a label: what it is worth is what the hold of that sum in a sandbox is worth. -/
noncomputable def Tryz.pinned : Pinned := { name := "ytmghjkkjaolpgaagreatdoor", sum := "217ce575f569e1338e85ecf2811d916d61d55c1ee4d977b0246d51fdc65fea68", checked := Tryz.checked }
namespace Rows
def none {H : Type} : Left H := { results := [], args := [] }

/- WHAT THE LISTED PACKAGE-LEVEL VARIABLES READ AS WHEN THE CALL BEGINS. Each datum BY PROGRAM (the guide's laid-datum.mjs) off the statement by which the dump's own 'gosem.cut.vars' lays the variable. In a bare row this is a premise. The card (YtmghjkkjaolpgaaGreatDoorCards.lean) ties it to the program's text. -/
def laid_errors_errorType {H : Type} : DataW H := .iface "internal/reflectlite.rtype" (.agg [.ptr (.lit (.string [101, 114, 114, 111, 114]))])
def laid_optima_api_ErrText {H : Type} : DataW H := .iface "*errors.errorString" (.ptr (.agg [.lit (.string [111, 112, 116, 105, 109, 97, 58, 32, 116, 101, 120, 116])]))
def laid_optima_api_ErrBound {H : Type} : DataW H := .iface "*errors.errorString" (.ptr (.agg [.lit (.string [111, 112, 116, 105, 109, 97, 58, 32, 98, 111, 117, 110, 100])]))
def laid_optima_api_ErrZero {H : Type} : DataW H := .iface "*errors.errorString" (.ptr (.agg [.lit (.string [111, 112, 116, 105, 109, 97, 58, 32, 122, 101, 114, 111])]))
def laid_optima_api_ErrShape {H : Type} : DataW H := .iface "*errors.errorString" (.ptr (.agg [.lit (.string [111, 112, 116, 105, 109, 97, 58, 32, 115, 104, 97, 112, 101])]))
def laid_optima_api_ErrSingular {H : Type} : DataW H := .iface "*errors.errorString" (.ptr (.agg [.lit (.string [111, 112, 116, 105, 109, 97, 58, 32, 115, 105, 110, 103, 117, 108, 97, 114])]))
def laid_optima_api_ErrSense {H : Type} : DataW H := .iface "*errors.errorString" (.ptr (.agg [.lit (.string [111, 112, 116, 105, 109, 97, 58, 32, 115, 101, 110, 115, 101])]))
def laid_optima_api_ErrName {H : Type} : DataW H := .iface "*errors.errorString" (.ptr (.agg [.lit (.string [111, 112, 116, 105, 109, 97, 58, 32, 110, 97, 109, 101])]))
def laid_optima_api_ErrNumber {H : Type} : DataW H := .iface "*errors.errorString" (.ptr (.agg [.lit (.string [111, 112, 116, 105, 109, 97, 58, 32, 110, 117, 109, 98, 101, 114])]))
def laid_optima_api_ErrBasis {H : Type} : DataW H := .iface "*errors.errorString" (.ptr (.agg [.lit (.string [111, 112, 116, 105, 109, 97, 58, 32, 98, 97, 115, 105, 115])]))
def laid_optima_api_ErrOpen {H : Type} : DataW H := .iface "*errors.errorString" (.ptr (.agg [.lit (.string [111, 112, 116, 105, 109, 97, 58, 32, 111, 112, 101, 110])]))

/-- 'optimalaw2.PresolveTold': WHATEVER THE INPUT: true; the input reads as it did. -/
def presolveToldSpec : ChangeSpec := { name := "presolveTold", fn := fun _ => fun
  | [d] => { results := [.lit (.bool true)], args := [d] }
  | _ => none }
def presolveToldRow : OpenClaim := { program := "ytmghjkkjaolpgaagreatdoor", sum := "217ce575f569e1338e85ecf2811d916d61d55c1ee4d977b0246d51fdc65fea68", func := "optima/optimalaw2.PresolveTold", spec := "presolveTold", inPlace := ["internal/reflectlite.TypeOf", "internal/reflectlite.ValueOf", "(internal/reflectlite.Value).Type", "(internal/reflectlite.Value).IsNil", "(internal/reflectlite.Value).Elem", "(internal/reflectlite.Value).Set"], unfollowed := true, recurses := true, named := ["optima/api.ErrText", "optima/api.ErrBound", "optima/api.ErrZero", "optima/api.ErrShape", "optima/api.ErrName", "optima/api.ErrSingular", "optima/api.ErrSense", "optima/api.ErrNumber", "optima/api.ErrBasis", "optima/api.ErrOpen", "errors.errorType"], apart := false, laid := [("errors.errorType", laid_errors_errorType), ("optima/api.ErrText", laid_optima_api_ErrText), ("optima/api.ErrBound", laid_optima_api_ErrBound), ("optima/api.ErrZero", laid_optima_api_ErrZero), ("optima/api.ErrShape", laid_optima_api_ErrShape), ("optima/api.ErrSingular", laid_optima_api_ErrSingular), ("optima/api.ErrSense", laid_optima_api_ErrSense), ("optima/api.ErrName", laid_optima_api_ErrName), ("optima/api.ErrNumber", laid_optima_api_ErrNumber), ("optima/api.ErrBasis", laid_optima_api_ErrBasis), ("optima/api.ErrOpen", laid_optima_api_ErrOpen)] }
def PresolveToldSaid : Prop := presolveToldRow.holds Tryz.pinned (OpenSpec.ofChange presolveToldSpec)

/-- ITS FALSE NEIGHBOUR: 'it returns false'. Refute it at one input. -/
def presolveToldWrong : ChangeSpec := { name := "presolveTold", fn := fun _ => fun
  | [d] => { results := [.lit (.bool false)], args := [d] }
  | _ => none }
def PresolveToldWrongFalsely : Prop := presolveToldRow.holds Tryz.pinned (OpenSpec.ofChange presolveToldWrong)

/-- 'optimalaw2.PresolveBack': WHATEVER THE INPUT: true; the input reads as it did. -/
def presolveBackSpec : ChangeSpec := { name := "presolveBack", fn := fun _ => fun
  | [d1, d2] => { results := [.lit (.bool true)], args := [d1, d2] }
  | _ => none }
def presolveBackRow : OpenClaim := { program := "ytmghjkkjaolpgaagreatdoor", sum := "217ce575f569e1338e85ecf2811d916d61d55c1ee4d977b0246d51fdc65fea68", func := "optima/optimalaw2.PresolveBack", spec := "presolveBack", inPlace := ["internal/reflectlite.TypeOf", "internal/reflectlite.ValueOf", "(internal/reflectlite.Value).Type", "(internal/reflectlite.Value).IsNil", "(internal/reflectlite.Value).Elem", "(internal/reflectlite.Value).Set"], unfollowed := true, recurses := true, named := ["optima/api.ErrText", "optima/api.ErrBound", "optima/api.ErrZero", "optima/api.ErrShape", "optima/api.ErrName", "optima/api.ErrSingular", "optima/api.ErrSense", "optima/api.ErrNumber", "optima/api.ErrBasis", "optima/api.ErrOpen", "errors.errorType"], apart := false, laid := [("errors.errorType", laid_errors_errorType), ("optima/api.ErrText", laid_optima_api_ErrText), ("optima/api.ErrBound", laid_optima_api_ErrBound), ("optima/api.ErrZero", laid_optima_api_ErrZero), ("optima/api.ErrShape", laid_optima_api_ErrShape), ("optima/api.ErrSingular", laid_optima_api_ErrSingular), ("optima/api.ErrSense", laid_optima_api_ErrSense), ("optima/api.ErrName", laid_optima_api_ErrName), ("optima/api.ErrNumber", laid_optima_api_ErrNumber), ("optima/api.ErrBasis", laid_optima_api_ErrBasis), ("optima/api.ErrOpen", laid_optima_api_ErrOpen)] }
def PresolveBackSaid : Prop := presolveBackRow.holds Tryz.pinned (OpenSpec.ofChange presolveBackSpec)

/-- ITS FALSE NEIGHBOUR: 'it returns false'. Refute it at one input. -/
def presolveBackWrong : ChangeSpec := { name := "presolveBack", fn := fun _ => fun
  | [d1, d2] => { results := [.lit (.bool false)], args := [d1, d2] }
  | _ => none }
def PresolveBackWrongFalsely : Prop := presolveBackRow.holds Tryz.pinned (OpenSpec.ofChange presolveBackWrong)

/- THE SECOND FORM. 'bulk': how many values and letters a reading holds, each counted each time it is reached (what is shared counts as often as it is met; a slice's spare places count too). A statement '..UptoSaid' is the law's where the arguments, and the package variables that the reading takes, are together of bulk at most 1048576: NARROWER than '..Said'. Prove '..Said' where nothing that the law and all that it calls make is longer than what came in: it says more and counts as full. Else prove '..UptoSaid'. A law counts once. -/
mutual
def uptoBulk {H : Type} : DataW H → Nat
  | .lit (.string bytes) => bytes.length + 1
  | .lit _ => 1
  | .nil => 1
  | .ptr d => uptoBulk d + 1
  | .slice elems spare => uptoBulkAll elems + uptoBulkAll spare + 1
  | .agg parts => uptoBulkAll parts + 1
  | .iface _ d => uptoBulk d + 1
  | .map entries => uptoBulkEntries entries + 1
  | .held _ => 1
def uptoBulkAll {H : Type} : List (DataW H) → Nat
  | [] => 0
  | d :: r => uptoBulk d + uptoBulkAll r
def uptoBulkEntries {H : Type} : List (Lit × DataW H) → Nat
  | [] => 0
  | x :: r => uptoBulkEntry x + uptoBulkEntries r
def uptoBulkEntry {H : Type} : Lit × DataW H → Nat
  | (.string bytes, d) => bytes.length + uptoBulk d + 1
  | (_, d) => uptoBulk d + 1
 end
def uptoSmall : (H : Type) → List (DataW H) → Bool := fun _ ds => decide (uptoBulkAll ds ≤ 1048576)
def OpenSpec.upto (s : _root_.Go.ChangeSpec) : _root_.Go.OpenSpec := { _root_.Go.OpenSpec.ofChange s with cond := some uptoSmall }

/-- 'optimalaw2.PresolveTold', WHERE WHAT IT READS IS OF BULK AT MOST 1048576: true; the input reads as it did. -/
def presolveToldUptoRow : OpenClaim := { program := "ytmghjkkjaolpgaagreatdoor", sum := "217ce575f569e1338e85ecf2811d916d61d55c1ee4d977b0246d51fdc65fea68", func := "optima/optimalaw2.PresolveTold", spec := "presolveTold", inPlace := ["internal/reflectlite.TypeOf", "internal/reflectlite.ValueOf", "(internal/reflectlite.Value).Type", "(internal/reflectlite.Value).IsNil", "(internal/reflectlite.Value).Elem", "(internal/reflectlite.Value).Set"], unfollowed := true, recurses := true, named := ["optima/api.ErrText", "optima/api.ErrBound", "optima/api.ErrZero", "optima/api.ErrShape", "optima/api.ErrName", "optima/api.ErrSingular", "optima/api.ErrSense", "optima/api.ErrNumber", "optima/api.ErrBasis", "optima/api.ErrOpen", "errors.errorType"], apart := false, laid := [("errors.errorType", laid_errors_errorType), ("optima/api.ErrText", laid_optima_api_ErrText), ("optima/api.ErrBound", laid_optima_api_ErrBound), ("optima/api.ErrZero", laid_optima_api_ErrZero), ("optima/api.ErrShape", laid_optima_api_ErrShape), ("optima/api.ErrSingular", laid_optima_api_ErrSingular), ("optima/api.ErrSense", laid_optima_api_ErrSense), ("optima/api.ErrName", laid_optima_api_ErrName), ("optima/api.ErrNumber", laid_optima_api_ErrNumber), ("optima/api.ErrBasis", laid_optima_api_ErrBasis), ("optima/api.ErrOpen", laid_optima_api_ErrOpen)], narrowed := true }
def PresolveToldUptoSaid : Prop := presolveToldUptoRow.holds Tryz.pinned (OpenSpec.upto presolveToldSpec)

/-- 'optimalaw2.PresolveBack', WHERE WHAT IT READS IS OF BULK AT MOST 1048576: true; the input reads as it did. -/
def presolveBackUptoRow : OpenClaim := { program := "ytmghjkkjaolpgaagreatdoor", sum := "217ce575f569e1338e85ecf2811d916d61d55c1ee4d977b0246d51fdc65fea68", func := "optima/optimalaw2.PresolveBack", spec := "presolveBack", inPlace := ["internal/reflectlite.TypeOf", "internal/reflectlite.ValueOf", "(internal/reflectlite.Value).Type", "(internal/reflectlite.Value).IsNil", "(internal/reflectlite.Value).Elem", "(internal/reflectlite.Value).Set"], unfollowed := true, recurses := true, named := ["optima/api.ErrText", "optima/api.ErrBound", "optima/api.ErrZero", "optima/api.ErrShape", "optima/api.ErrName", "optima/api.ErrSingular", "optima/api.ErrSense", "optima/api.ErrNumber", "optima/api.ErrBasis", "optima/api.ErrOpen", "errors.errorType"], apart := false, laid := [("errors.errorType", laid_errors_errorType), ("optima/api.ErrText", laid_optima_api_ErrText), ("optima/api.ErrBound", laid_optima_api_ErrBound), ("optima/api.ErrZero", laid_optima_api_ErrZero), ("optima/api.ErrShape", laid_optima_api_ErrShape), ("optima/api.ErrSingular", laid_optima_api_ErrSingular), ("optima/api.ErrSense", laid_optima_api_ErrSense), ("optima/api.ErrName", laid_optima_api_ErrName), ("optima/api.ErrNumber", laid_optima_api_ErrNumber), ("optima/api.ErrBasis", laid_optima_api_ErrBasis), ("optima/api.ErrOpen", laid_optima_api_ErrOpen)], narrowed := true }
def PresolveBackUptoSaid : Prop := presolveBackUptoRow.holds Tryz.pinned (OpenSpec.upto presolveBackSpec)

end Rows
end Go.Proofs.YtmghjkkjaolpgaaGreatDoor
