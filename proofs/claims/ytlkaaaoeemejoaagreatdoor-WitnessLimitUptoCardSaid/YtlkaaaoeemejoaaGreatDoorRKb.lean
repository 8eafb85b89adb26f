/- What the document's functions make of a problem in texts. A text of the prover's own. -/
import Derived.Test.YtlkaaaoeemejoaaGreatDoorRKa
namespace Go.Proofs
open Go.Sv Go Go.Tb Go.Pl Go.Ut Go.Li
/-- what is told of a text's reading -/
def flV (s : ByteArray) : SV := .agg [.val (.int .i64 ((qrd 300 s).2.1 : Nat)), .val (.int .i64 (if okNum s = true then -1 else ((qrd 300 s).2.2 : Nat)))]
@[simp] theorem flV_pure (s : ByteArray) : (flV s).pure = true := rfl
@[simp] theorem flV_uses (s : ByteArray) (k : Nat) : (flV s).uses k = false := rfl
@[simp] theorem flV_lt (s : ByteArray) (k : Nat) : (flV s).lt k = true := rfl
theorem readB_ok (s : ByteArray) (h : s.size ≤ 1048576) : PureF Tryz.prog 14 [.val (.string s)] (.tup [qb (numB s), flV s]) := by
  by_cases hq : (qrd 300 s).2.1 = 0
  · have := pnum_ok s (by omega) hq
    have hk : okNum s = true := decide_eq_true hq
    rwa [show (SV.tup [qsv (num s), fsv 0 (-1)]) = .tup [qb (numB s), flV s] by rw [qb_num hk]; simp [flV, hk, hq, fsv]] at this
  · have := pQRead_ok s (by omega)
    have hk : okNum s = false := decide_eq_false hq
    rwa [show outP (qrd 300 s) = .tup [qb (numB s), flV s] by simp [outP, hq, numB, hk, qb_none, flV, fsv]] at this
theorem number1_ok (s : ByteArray) (h : s.size ≤ 1048576) : PureF Tryz.prog 160 [.val (.string s), .val (.bool false)] (.tup [qb (numB s), flV s]) := by
  refine pure_enter Tryz.func160 rfl (by simp) (fun C hC => ?_)
  simp
  refine callS (readB_ok s h) (by simp) ?_
  simp [flV]
theorem rBound_ok (s : ByteArray) (h : s.size ≤ 1048576) : PureF Tryz.prog 161 [.val (.string s), .val (.bool false)] (.tup [boX (!isNo s) (boN s), .val (.bool (okBo s))]) := by
  refine pure_enter Tryz.func161 rfl (by simp) (fun C hC => ?_)
  simp
  by_cases h0 : isNo s = true
  · have e : s = ⟨#[]⟩ := of_decide_eq_true h0
    simp [okBo, boN, h0, e, isNo, boX_no]
  · have h0' : isNo s = false := by simpa using h0
    have e : ¬ s = ⟨#[]⟩ := of_decide_eq_false h0'
    simp [e]
    refine callS (number1_ok s h) (by simp) ?_
    simp [flV]
    refine CodeJ.draw (.qs [0, 1, 2] <| .q 3 [0] <| .qs [4] <| .l 5 [0] <| .qs [6] <| .nil) (by kernel_rfl) (by kernel_rfl) (by simp) ?_
    simp [okBo, boN, h0', boX_mk, okNum]
end Go.Proofs

