/- Claims in texts as plain data. A text of the prover's own. -/
import Derived.Test.YtlkaaaoeemejoaaGreatDoorTKl
import Derived.Test.YtlkaaaoeemejoaaGreatDoorTKr
namespace Go.Li
open Go Go.Sv Go.Pl Go.Proofs Go.Tb Go.Ut
def clmD : Pt := .pair (.int .i64) (.pair textsT (.pair textsT (.pair textsT (.pair .str .unit))))
def clmOf (y : clmD.T) : ClmT := ⟨y.1, y.2.1, y.2.2.1, y.2.2.2.1, y.2.2.2.2.1⟩
theorem clm_sv (x : clmD.T) : clmD.sv x = clT (clmOf x) := rfl
theorem clm_bk (y : clmD.T) : clmD.bk y = 1 + (textsT.bk y.2.1 + (textsT.bk y.2.2.1 + (textsT.bk y.2.2.2.1 + ((ByteArray.size y.2.2.2.2.1 + 1) + 0)))) := rfl
theorem clm_sm {x : clmD.T} (h : clmD.bk x ≤ 1048576) : SmCl (clmOf x) := by
  rw [clm_bk] at h
  refine ⟨texts_sm (x := x.2.1) (by omega), texts_sm (x := x.2.2.1) (by omega), texts_sm (x := x.2.2.2.1) (by omega), ?_⟩
  show ByteArray.size x.2.2.2.2.1 ≤ 1048576
  omega
end Go.Li

