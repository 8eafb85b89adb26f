/- What the law WholeOf returns. A text of the prover's own. -/
import Derived.Test.YtgiagombkgjhfaaDoorNa
namespace Go.Proofs
open Go.Sv Go Go.Pl
theorem fsv_csz (c : Nat) (a : Int) : (fsv c a).csz = 2 := rfl
theorem rfit_rd (s : ByteArray) : rfit (rd s).1 := by
  have h := rd_abs s
  exact Nat.le_trans (wid_base (by omega) (by omega) _) (Nat.le_trans h (by omega))
set_option maxRecDepth 20000 in
theorem wholeOf_ok (n : Int) (s : ByteArray) (h1 : -9223372036854775808 ≤ n) (h2 : n ≤ 9223372036854775807) (hs : s.size ≤ 4611686018427387904) :
    PureF Tryd.prog 3 [.val (.int .i64 n), .val (.string s)] (.val (.bool true)) := by
  refine pure_enter Tryd.func3 rfl (by simp) (fun C hC => ?_)
  have fn : fit n := Nat.le_trans (wid_le (k := 3) (by omega) (by omega)) (by omega)
  have gn : rfit n := Nat.le_trans (wid_le (k := 5) (by omega) (by omega)) (by omega)
  have ft : fits64 n := ⟨h1, h2⟩
  simp
  refine callF (of_ok n h1 h2) (by simp) ?_
  simp
  refine callF (text_ok n fn) (by simp) ?_
  simp
  refine callF (int64_ok n) (by simp) ?_
  simp [ft]
  refine callF (rOf_ok n h1 h2) (by simp) ?_
  simp
  refine callF (rText_ok n gn) (by simp) ?_
  simp
  refine callF (rRead_ok s hs) (by simp) ?_
  have e1 : fsvR (rd s) = .agg [.val (.int .i64 (rd s).2.1), .val (.int .i64 (if (rd s).2.1 = 0 then -1 else ((rd s).2.2 : Int)))] := rfl
  rw [e1]
  have fx := fit_rd s
  have gx := rfit_rd s
  have rr := read_ok s hs
  generalize (rd s).1 = x at *
  generalize (rd s).2.1 = c at *
  generalize (rd s).2.2 = a at *
  simp
  intro hs4 hc0
  have hc : c = 0 := by omega
  subst hc
  refine callF rr (by simp) ?_
  simp
  refine callF (int64_ok x) (by simp) ?_
  simp
  refine callF (rFits_ok x gx) (by simp) ?_
  by_cases hx : fits64 x
  · simp [hx]
    have hx1 := hx.1
    have hx2 := hx.2
    refine callF (rOf_ok x hx1 hx2) (by simp) ?_
    simp
    refine callF (rText_ok x gx) (by simp) ?_
    simp
    refine callF (rText_ok x gx) (by simp) ?_
    simp
  · simp [hx]
end Go.Proofs
