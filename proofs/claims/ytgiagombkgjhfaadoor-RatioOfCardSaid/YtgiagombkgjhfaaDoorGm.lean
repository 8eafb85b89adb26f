/- What the law RatioOf returns. A text of the prover's own. -/
import Derived.Test.YtgiagombkgjhfaaDoorQf
import Derived.Test.YtgiagombkgjhfaaDoorGj
namespace Go.Proofs
open Go.Sv Go Go.Pl
theorem fw_n64 {n : Int} (h1 : -9223372036854775808 ≤ n) (h2 : n ≤ 9223372036854775807) : fw 2 n := wid_le (by omega) (by omega)
theorem qtxt_int (n : Int) : qtxt (n : Rat) = txt n := by simp [qtxt]
theorem qtxt_zero : qtxt 0 = ⟨#[48]⟩ := by rw [show (0 : Rat) = ((0 : Int) : Rat) from rfl, qtxt_int]; rfl
set_option maxRecDepth 20000 in
theorem ratioOf_ok (s t : ByteArray) (n : Int) (hs : s.size ≤ 4611686018427387904) (ht : t.size ≤ 4611686018427387904) (h1 : -9223372036854775808 ≤ n) (h2 : n ≤ 9223372036854775807) :
    PureF Tryd.prog 8 [.val (.string s), .val (.string t), .val (.int .i64 n)] (.val (.bool true)) := by
  refine pure_enter Tryd.func8 rfl (by simp) (fun C hC => ?_)
  have e1 : fsvR (rd s) = .agg [.val (.int .i64 (rd s).2.1), .val (.int .i64 (if (rd s).2.1 = 0 then -1 else ((rd s).2.2 : Int)))] := rfl
  have e2 : fsvR (rd t) = .agg [.val (.int .i64 (rd t).2.1), .val (.int .i64 (if (rd t).2.1 = 0 then -1 else ((rd t).2.2 : Int)))] := rfl
  have fx := fw_rd s
  have fy := fw_rd t
  have r1 := read_ok s hs
  have r2 := read_ok t ht
  have q1 := rRead_ok s hs
  have q2 := rRead_ok t ht
  rw [e1] at q1
  rw [e2] at q2
  generalize (rd s).1 = x at *
  generalize (rd t).1 = y at *
  generalize (rd s).2.1 = c at *
  generalize (rd t).2.1 = c' at *
  generalize (rd s).2.2 = a at *
  generalize (rd t).2.2 = a' at *
  clear e1 e2
  have fn := fw_n64 h1 h2
  simp
  refine callS (qInt_ok n h1 h2) (by simp) ?_
  simp
  refine callS (qText_ok _ (qok_of (qw_int fn (by omega)) (by omega))) (by simp) ?_
  simp [qtxt_int]
  refine callS (rOf_ok n h1 h2) (by simp) ?_
  simp
  refine callS (rText_ok n (rfit_of fn (by omega))) (by simp) ?_
  simp
  refine callS q1 (by simp) ?_
  simp
  refine callS q2 (by simp) ?_
  simp
  intro _ _ hc hc'
  have hc : c = 0 := by omega
  have hc' : c' = 0 := by omega
  subst hc hc'
  refine callS r1 (by simp) ?_
  simp
  refine callS r2 (by simp) ?_
  simp
  refine callS (qOf_ok x y (fit_fw fx (by omega)) (fit_fw fy (by omega))) (by simp) ?_
  simp
  refine callS (rSign_ok y) (by simp) ?_
  simp
  by_cases h0 : y = 0
  · subst h0
    simp
    refine callS (qText_ok _ (qok_of (k := 300) (qw_divInt fx fy (by omega)) (by omega))) (by simp) ?_
    simp [Rat.divInt_zero, qtxt_zero]
  · simp [h0]
    have hq : qok (Rat.divInt x y) := qok_of (k := 300) (qw_divInt fx fy (by omega)) (by omega)
    refine CodeJ.draw (.qs [0, 1, 2, 4, 5] <| .l 3 [] <| .l 6 [] <| .l 7 [] <| .qs [8, 9, 10] <| .nil) (by kernel_rfl) (by kernel_rfl) (by simp) ?_
    simp
    refine callS (qText_ok _ hq) (by simp) ?_
    simp
    refine callS (pOver_ok x y (rfit_of fx (by omega)) (rfit_of fy (by omega)) h0) (by simp) ?_
    simp
    refine callS (pText_ok _ hq) (by simp) ?_
    simp
