/- Calls of laws that ask for no error's number, in worlds whose package variables hold what the row lists. A text of the prover's own; of the variant with five package variables. -/
import Derived.Test.YtlkaaaoeemejoaaGreatDoorTLr
namespace Go.Proofs
open Go Go.Sv Go.ChangeShapes Go.WideShapes Go.RowKit
theorem Tryz.inv_of_laidH {W : World} (h : laidMetH Tryz.prog YtlkaaaoeemejoaaGreatDoor.Rows.witnessSoundRow.laid W) : InvH (H0of W) W := by
  have e1 : (YtlkaaaoeemejoaaGreatDoor.Rows.witnessSoundRow.laid.filter fun x => x.2.handleName?.isSome) = [] := by kernel_rfl
  have e2 : YtlkaaaoeemejoaaGreatDoor.Rows.witnessSoundRow.laid = sentData := by kernel_rfl
  unfold laidMetH at h
  rw [e1] at h
  have h' : laidMet Tryz.prog YtlkaaaoeemejoaaGreatDoor.Rows.witnessSoundRow.laid W := h
  rw [e2] at h'
  exact Tryz.inv_of_laid h'
theorem calls_of_pureF {P : Program} {fn : FuncId} {args : List SV} {b : Bool} (h : PureF P fn args (.val (.bool b))) {W : World} (hW : InvH (H0of W) W) {vals : List Value} (hd : DenT noB (Hall W) args vals) :
    Calls P fn vals.toArray W fun e W' => e = .returned (.bool b) ∧ Below W.heap.size W W' := by
  refine (h (Hall W) W vals (inv_all hW) hd).mono fun e W' ⟨H', v, x, e1, e2, e3, _, _, _, e4⟩ => ?_
  subst e3
  simp only [Den] at e2
  exact ⟨by rw [e1, e2.1], e4⟩
end Go.Proofs

