/- What the law RatioSums returns. A text of the prover's own. -/
import Derived.Test.YtgiagombkgjhfaaDoorZQo
namespace Go.Proofs
open Go.Sv Go Go.Pl
set_option maxRecDepth 20000 in
theorem ratioSums_ok (s t : ByteArray) (hs : s.size ≤ 4611686018427387904) (ht : t.size ≤ 4611686018427387904) :
    PureF Tryd.prog 9 [.val (.string s), .val (.string t)] (.val (.bool true)) := by
  refine pure_enter Tryd.func9 rfl (by simp) (fun C hC => ?_)
  have fx := qw_qrd s
  have fy := qw_qrd t
  have r1 := pQRead_ok s hs
  have r2 := pQRead_ok t ht
  have q1 := qRead_ok s hs
  have q2 := qRead_ok t ht
  unfold outP at r1 r2
  unfold outQ at q1 q2
  generalize (qrd 300 s).1 = x at *
  generalize (qrd 300 t).1 = y at *
  generalize (qrd 300 s).2.1 = c at *
  generalize (qrd 300 t).2.1 = c' at *
  generalize (qrd 300 s).2.2 = a at *
  generalize (qrd 300 t).2.2 = a' at *
  by_cases k1 : c = 0
  · by_cases k2 : c' = 0
    · subst k1 k2
      rw [if_pos rfl, if_pos rfl] at r1 r2
      have ok {k : Nat} {z : Rat} (h : qw k z) (hk : k ≤ 10000000000) : qok z := qok_of h hk
      have hx : qok x := ok fx (by omega)
      have hy : qok y := ok fy (by omega)
      have ha : qok (x + y) := ok (qw_add fx fy) (by omega)
      have hb : qok (x - y) := ok (qw_sub fx fy) (by omega)
      have hm : qok (x * y) := ok (qw_mul fx fy (by omega)) (by omega)
      have hn : qok (-x) := ok (qw_neg fx) (by omega)
      have hd : qok (x / y) := ok (qw_div fx fy (by omega)) (by omega)
      have hf := fw_floor fx
      have hc := fw_ceil fx
      have rf : rfit x.floor := rfit_of hf (by omega)
      have rc : rfit x.ceil := rfit_of hc (by omega)
      simp
      refine callS r1 (by simp [fsv]) ?_
      simp [fsv]
      refine callS r2 (by simp [fsv]) ?_
      simp [fsv]
      intro _ _
      refine callS q1 (by simp [errSV]) ?_
      simp [errSV]
      refine callS q2 (by simp [errSV]) ?_
      simp [errSV]
      refine callS (qAdd_ok x y hx hy) (by simp) ?_
      simp
      refine callS (qSub_ok x y hx hy) (by simp) ?_
      simp
      refine callS (qMul_ok x y hx hy) (by simp) ?_
      simp
      refine callS (qNeg_ok x) (by simp) ?_
      simp
      refine CodeJ.draw (.qs [0, 2, 3] <| .l 1 [] <| .l 4 [] <| .l 5 [] <| .qs [6, 7, 8, 10, 11] <| .l 9 [] <| .l 12 [] <| .l 13 [] <| .qs [14, 15] <| .nil) (by kernel_rfl) (by kernel_rfl) (by simp) ?_
      simp
      refine callS (qText_ok _ ha) (by simp) ?_
      simp
      refine callS (pAdd_ok x y hx hy) (by simp) ?_
      simp
      refine callS (pText_ok _ ha) (by simp) ?_
      simp
      refine callS (qText_ok _ hb) (by simp) ?_
      simp
      refine callS (pSub_ok x y hx hy) (by simp) ?_
      simp
      refine callS (pText_ok _ hb) (by simp) ?_
      simp
      refine CodeJ.draw (.qs [0, 2, 3] <| .l 1 [] <| .l 4 [] <| .l 5 [] <| .qs [6, 7, 8, 10] <| .l 9 [] <| .l 11 [] <| .l 12 [] <| .qs [13, 14] <| .nil) (by kernel_rfl) (by kernel_rfl) (by simp) ?_
      simp
      refine callS (qText_ok _ hm) (by simp) ?_
      simp
      refine callS (pMul_ok x y hx hy) (by simp) ?_
      simp
      refine callS (pText_ok _ hm) (by simp) ?_
      simp
      refine callS (qText_ok _ hn) (by simp) ?_
      simp
      refine callS (pNeg_ok x) (by simp) ?_
      simp
      refine callS (pText_ok _ hn) (by simp) ?_
      simp
      refine CodeJ.draw (.qs [0, 1, 3, 4] <| .l 2 [] <| .l 5 [] <| .qs [6, 7, 8, 10] <| .l 9 [] <| .l 11 [] <| .qs [12, 13, 14, 15, 17] <| .l 16 [] <| .l 18 [] <| .qs [19, 20] <| .nil) (by kernel_rfl) (by kernel_rfl) (by simp) ?_
      simp
      refine callS (qCmp_ok x y hx hy) (by simp) ?_
      simp
      refine callS (pCmp_ok x y hx hy) (by simp) ?_
      simp
      refine callS (qSign_ok x) (by simp) ?_
      simp
      refine callS (pSign_ok x) (by simp) ?_
      simp
      refine callS (qIsWhole_ok x) (by simp) ?_
      simp
      refine callS (pIsWhole_ok x) (by simp) ?_
      simp
      refine callS (qFloor_ok x hx) (by simp) ?_
      simp
      refine callS (qCeil_ok x hx) (by simp) ?_
      simp
      refine CodeJ.draw (.qs [0, 2] <| .l 1 [] <| .l 3 [] <| .l 4 [] <| .qs [5, 6, 7, 9] <| .l 8 [] <| .l 10 [] <| .l 11 [] <| .qs [12, 13] <| .nil) (by kernel_rfl) (by kernel_rfl) (by simp) ?_
      simp
      refine callS (text_ok _ (fit_fw hf (by omega))) (by simp) ?_
      simp
      refine callS (pFloor_ok x hx) (by simp) ?_
      simp
      refine callS (rText_ok _ rf) (by simp) ?_
      simp
      refine callS (text_ok _ (fit_fw hc (by omega))) (by simp) ?_
      simp
      refine callS (pCeil_ok x hx) (by simp) ?_
      simp
      refine callS (rText_ok _ rc) (by simp) ?_
      simp
      refine callS (qQuo_ok x y hx hy) (by simp) ?_
      simp
      refine callS (pSign_ok y) (by simp) ?_
      by_cases h0 : y = 0
      · subst h0
        have hz : x / 0 = 0 := by rw [Rat.div_def, Rat.inv_zero, Rat.mul_zero]
        simp [hz]
        refine callS (qText_ok 0 (qok_of (qw_zero (k := 1) (by omega)) (by omega))) (by simp) ?_
        simp [qtxt_nil]
      · simp [h0]
        refine CodeJ.draw (.qs [0, 1, 2, 4, 5] <| .l 3 [] <| .l 6 [] <| .l 7 [] <| .qs [8, 9, 10] <| .nil) (by kernel_rfl) (by kernel_rfl) (by simp) ?_
        simp
        refine callS (qText_ok _ hd) (by simp) ?_
        simp
        refine callS (pQuo_ok x y hx hy h0) (by simp) ?_
        simp
        refine callS (pText_ok _ hd) (by simp) ?_
        simp
    · rw [if_neg k2] at r2
      rw [if_pos k1] at r1
      simp
      refine callS r1 (by simp [fsv]) ?_
      simp [fsv]
      refine callS r2 (by simp [fsv]) ?_
      simp [fsv, k1]
      omega
  · rw [if_neg k1] at r1
    simp
    refine callS r1 (by simp [fsv]) ?_
    simp [fsv]
    by_cases k2 : c' = 0
    · rw [if_pos k2] at r2
      refine callS r2 (by simp [fsv]) ?_
      simp [fsv]
      omega
    · rw [if_neg k2] at r2
      refine callS r2 (by simp [fsv]) ?_
      simp [fsv]
      omega
