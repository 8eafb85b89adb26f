/- Copies of slices, sorted slices, slices without neighbours that are the same. A text of the prover's own. -/
import Derived.Test.YtadkomdooleipaaDoorMAm
import Derived.Test.YtadkomdooleipaaDoorMAh
namespace Go.Proofs
open Go.Sv Go Go.Tb Go.Pl Go.Ut Go.Fn
set_option maxRecDepth 10000 in
theorem slClone_ok (l : List Int) (hl : l.length ≤ 1000000) : EffC Tryd.prog 31 [.ro (l.map iv)] [] [] (fun T y => T = [some ⟨1, l.map iv, false⟩] ∧ y = .view 0 0 l.length) := by
  refine eff_enterC Tryd.func31 rfl (by simp) (fun C hC => ?_)
  refine CodeJ.seqI (CodeJ.regionI (OpsJ.go ?_))
  simp
  refine CodeJ.seqI (CodeJ.seqI (CodeJ.regionI (OpsJ.step rfl ?_)))
  simp
  refine OpsJ.nilRo (es := l.map iv) (.inl rfl) (by simp) (Tryd.ty37) (by simp) (fun b hb => ?_)
  refine OpsJ.go ?_
  simp
  cases b with
  | true =>
    have he : l = [] := by
      cases l with
      | nil => rfl
      | cons a l => exact absurd (hb (by simp)) (by simp)
    subst he
    refine CodeJ.condI true (by simp) (fun _ => ?_) (fun q => by cases q)
    refine CodeJ.seqI (CodeJ.regionI (OpsJ.go ?_))
    simp
    refine CodeJ.nil 2 1 rfl ?_
    refine CodeJ.go ?_
    simp
    exact ⟨_, _, ⟨rfl, rfl⟩, rfl, by simp [leM], .inl rfl⟩
  | false =>
    refine CodeJ.condI false (by simp) (fun q => by cases q) (fun _ => ?_)
    refine CodeJ.go ?_
    simp
    refine CodeJ.go ?_
    simp
    refine ⟨⟨by simp [hC], by omega⟩, _, _, ⟨rfl, rfl⟩, rfl, by simp [leM], .inl rfl⟩
theorem lset_iv (m : List Int) (j : Nat) (x : Int) : lset (m.map iv) j (.val (.int .i64 x)) = (m.set j x).map iv := by
  rw [lset_eq, List.map_set]; rfl
/-! sorting -/
/-! without neighbours that are the same -/
end Go.Proofs

