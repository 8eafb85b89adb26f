/- From laid package variables to what the walks of errors.Is and errors.As ask of the world. A text of the prover's own. -/
import Derived.Test.YtlkaaaoeemejoaaGreatDoorQLi
import Derived.Test.YtlkaaaoeemejoaaGreatDoorQEr
import Derived.LaidHandle
namespace Go.Proofs
open Go Go.Sv Go.ChangeShapes Go.WideShapes Go.RowKit
theorem Tryz.et : Tryz.prog.globalNamed "errors.errorType" = some 10 := by kernel_rfl
theorem Tryz.rt : (Tryz.prog.cutTypes.find? (·.1 == "internal/reflectlite.rtype")).map (·.2) = some 321 := by kernel_rfl
theorem Tryz.oneRow : ((List.range 375).filter fun t => Tryz.prog.rowNamed t [101, 114, 114, 111, 114]) = [36] := by kernel_rfl
theorem Tryz.tsize : Tryz.prog.types.size = 375 := by kernel_rfl
theorem eok_of {W : World} {A : List (Nat × Addr)} {ps : List MemPlace} (h1 : A.map (·.1) = sens) (h2 : ∀ p ∈ A, ∃ T z, W.heap[p.1]? = some (.cells #[.iface sent (.pointer (some p.2))] T z))
    (h3 : List.Sublist (A.map fun p => MemPlace.cell p.2.block p.2.off) ps) (hr : ∀ b off, MemPlace.cell b off ∈ ps → ∃ c t, W.heap[b]? = some (.cells c t (0, 0)))
    (hh : W.cell? ⟨10, 0, none⟩ = some (.iface 321 (.agg #[.pointer (some ⟨11, 36, none⟩)]))) : EOK W := by
  refine ⟨fun g hg => ?_, hh⟩
  have hg := List.contains_iff_mem.1 hg
  rw [← h1] at hg
  obtain ⟨⟨g', a⟩, hp, rfl⟩ := List.mem_map.1 hg
  obtain ⟨T, z, e1⟩ := h2 _ hp
  obtain ⟨c, t, e2⟩ := hr a.block a.off (h3.subset (List.mem_map.2 ⟨_, hp, rfl⟩))
  exact ⟨a, T, z, c, t, e1, e2⟩
theorem laidMetH_split {P : Program} {l s : List (String × DataW Unit)} {a : String × DataW Unit} {W : World} (h1 : (l.filter fun x => x.2.handleName?.isSome) = [a]) (h2 : (l.filter fun x => x.2.handleName?.isNone) = s) (h : laidMetH P l W) : laidMet P s W ∧ handlesMet P [a] W := by
  unfold laidMetH at h
  rw [h1, h2] at h
  exact h
theorem Tryz.eok_of_laid {W : World} (h : laidMetH Tryz.prog YtlkaaaoeemejoaaGreatDoor.Rows.planChecksRow.laid W) : InvH (H0of W) W ∧ EOK W := by
  obtain ⟨hl, hh⟩ := laidMetH_split (l := YtlkaaaoeemejoaaGreatDoor.Rows.planChecksRow.laid) (a := ("errors.errorType", YtlkaaaoeemejoaaGreatDoor.Rows.laid_errors_errorType)) (s := sentData) (by kernel_rfl) (by kernel_rfl) h
  refine ⟨Tryz.inv_of_laid hl, ?_⟩
  obtain ⟨ps, h1, h2, h3⟩ := hl
  obtain ⟨A, a1, a2, a3⟩ := laid_sens Tryz.underlying36 Tryz.rowErr Tryz.underlying344 Tryz.underlying363 rfl rfl Tryz.underlying9 Tryz.cells363 Tryz.cells9 sents h1 Tryz.sents_named h3
  refine eok_of (by rw [a1]; rfl) a2 a3 (fun b off hb => (h3 b off hb).1) ?_
  obtain ⟨name, u, ty, e1, e2, e3, e4, e5⟩ := hh _ (List.mem_singleton.2 rfl)
  have en : name = [101, 114, 114, 111, 114] := (Option.some.inj e1).symm
  subst en
  obtain rfl := Option.some.inj (Tryz.rt.symm.trans e2)
  have hm : ty ∈ (List.range 375).filter fun t => Tryz.prog.rowNamed t [101, 114, 114, 111, 114] := List.mem_filter.2 ⟨List.mem_range.2 (by rw [← Tryz.tsize]; exact e3), e4⟩
  rw [Tryz.oneRow] at hm
  obtain rfl := List.mem_singleton.1 hm
  have hth : typeHandle Tryz.prog 36 = .pointer (some ⟨11, 36, none⟩) := by kernel_rfl
  rw [hth] at e5
  simpa using World.var?_cell Tryz.et e5 0
/-- a world for the witness: the errors laid, and errors.errorType -/
noncomputable def Tryz.laidWorldE (os : Os) : World :=
  { Tryz.laidWorld os with heap := (Tryz.laidWorld os).heap.modify 10 fun
      | .cells _ t frozen => .cells #[.iface 321 (.agg #[.pointer (some ⟨11, 36, none⟩)])] t frozen
      | o => o }
/-- a call with such a contract, in a world whose variables hold what is listed -/
theorem calls_of_pureE {P : Program} {fn : FuncId} {args : List SV} {b : Bool} (h : PureE P fn args (fun x => x = .val (.bool b))) {W : World} (hW : InvH (H0of W) W ∧ EOK W) {vals : List Value} (hd : DenT noB (H0of W) args vals) :
    Calls P fn vals.toArray W fun e W' => e = .returned (.bool b) ∧ Below W.heap.size W W' := by
  refine (h (H0of W) W vals hW.1 hW.2 hd).mono fun e W' ⟨H', v, x, e1, e2, e3, _, _, _, e4⟩ => ?_
  subst e3
  simp only [Den] at e2
  exact ⟨by rw [e1, e2.1], e4⟩
end Go.Proofs

