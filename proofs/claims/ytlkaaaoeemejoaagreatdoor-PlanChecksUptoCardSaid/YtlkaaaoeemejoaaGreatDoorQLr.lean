/- The road from a contract about symbolic values to the statement of a law whose arguments are plain data in memory. A text of the prover's own. -/
import Derived.Test.YtlkaaaoeemejoaaGreatDoorQLk
import Derived.Test.YtlkaaaoeemejoaaGreatDoorQDa
namespace Go.Proofs
open Go Go.Sv Go.ChangeShapes Go.WideShapes Go.RowKit
theorem inv_all {W : World} (h : InvH (H0of W) W) : InvH (Hall W) W := by
  refine ⟨fun b cs hb => ?_, h.2.mono fun b cs hb => ?_⟩
  · unfold Hall at hb
    split at hb
    · rename_i c T z hh
      simp only [Option.some.injEq] at hb
      subst hb
      exact ⟨T, z, hh⟩
    · cases hb
  · unfold H0of at hb
    split at hb
    · split at hb
      · rename_i c T z hh
        simp only [Option.some.injEq] at hb
        subst hb
        simp [Hall, hh]
      · cases hb
    · cases hb
theorem denT_cons {β : Bnd} {H : Hp} {x : SV} {v : Value} {l : List SV} {vs : List Value} (h : Den β H x v) (h' : DenT β H l vs) : DenT β H (x :: l) (v :: vs) := by
  simp only [DenT]; exact ⟨v, vs, rfl, h, h'⟩
theorem denT_nil {β : Bnd} {H : Hp} : DenT β H [] [] := by simp [DenT]
/-- a call with a contract, its arguments plain data -/
theorem calls_of_pureA {P : Program} {fn : FuncId} {args : List SV} {b : Bool} (h : PureE P fn args (fun x => x = .val (.bool b))) {W : World} (hW : InvH (H0of W) W ∧ EOK W) {vals : List Value} (hd : DenT noB (Hall W) args vals) :
    Calls P fn vals.toArray W fun e W' => e = .returned (.bool b) ∧ Below W.heap.size W W' := by
  refine (h (Hall W) W vals (inv_all hW.1) hW.2 hd).mono fun e W' ⟨H', v, x, e1, e2, e3, _, _, _, e4⟩ => ?_
  subst e3
  simp only [Den] at e2
  exact ⟨by rw [e1, e2.1], e4⟩
end Go.Proofs

