/- The errors of package api that the rows list: what is known of memory when a call begins, and a world that holds them. A text of the prover's own. -/
import Derived.Test.YtgiagombkgjhfaaDoorLi
import Derived.WalkKit
import Derived.ProofKit
import Derived.OpenShut
import Derived.Deep.DeepHandedRow
import Derived.Deep.DeepWitnessRowRef
namespace Go.Proofs
open Go Go.Sv Go.ChangeShapes Go.WideShapes Go.RowKit
/-- the listed errors: name, number, text -/
def sents : List (String × Nat × List UInt8) := [("optima/api.ErrText", 0, [111, 112, 116, 105, 109, 97, 58, 32, 116, 101, 120, 116]), ("optima/api.ErrBound", 2, [111, 112, 116, 105, 109, 97, 58, 32, 98, 111, 117, 110, 100])]
def sentData : List (String × DataW Unit) := sents.map fun x => (x.1, .iface "*errors.errorString" (.ptr (.agg [.lit (.string x.2.2)])))
theorem Tryd.cells209 : Tryd.prog.cellsOf 209 = 1 := by kernel_rfl
theorem Tryd.cells9 : Tryd.prog.cellsOf 9 = 1 := by kernel_rfl
theorem Tryd.rowErr (u : TypeId) (h : Tryd.prog.typeName? 3 u = some "*errors.errorString") : u = 191 :=
  typeName_ptr_named (nm := "errors.errorString") (by rw [show "*" ++ "errors.errorString" = "*errors.errorString" by decide]; kernel_rfl) (by kernel_rfl) (by decide) u (by rw [show "*" ++ "errors.errorString" = "*errors.errorString" by decide]; exact h)
theorem Tryd.sents_named : ∀ x ∈ sents, Tryd.prog.globalNamed x.1 = some x.2.1 ∧ (Tryd.prog.globals[x.2.1]?).map (·.type) = some 39 := by
  have h : sents.all (fun x => decide (Tryd.prog.globalNamed x.1 = some x.2.1) && decide ((Tryd.prog.globals[x.2.1]?).map (·.type) = some 39)) = true := by kernel_rfl
  intro x hx
  have := List.all_eq_true.1 h x hx
  simpa using this
theorem Tryd.inv_of_laid {W : World} (h : laidMet Tryd.prog sentData W) : InvH (H0of W) W := by
  obtain ⟨ps, h1, h2, h3⟩ := h
  obtain ⟨A, a1, a2, a3⟩ := laid_sens Tryd.underlying39 Tryd.rowErr Tryd.underlying191 Tryd.underlying209 rfl rfl Tryd.underlying9 Tryd.cells209 Tryd.cells9 sents h1 Tryd.sents_named h3
  exact gok_of (by rw [a1]; rfl) a2 a3 h2
noncomputable def Tryd.low : Nat := (World.holding Tryd.prog default ⟨#[], #[], []⟩).heap.size
/-- a world for the witness: the settled one, the errors laid -/
noncomputable def Tryd.laidWorld (os : Os) : World :=
  let w0 := World.holding Tryd.prog os ⟨(sents.map fun x => Obj.cells #[.string ⟨x.2.2.toArray⟩] 209).toArray, #[], []⟩
  { w0 with heap := sents.zipIdx.foldl (fun h x => h.modify x.1.2.1 fun
      | .cells _ t frozen => .cells #[.iface 191 (.pointer (some ⟨Tryd.low + x.2, 0, none⟩))] t frozen
      | o => o) w0.heap }
end Go.Proofs
