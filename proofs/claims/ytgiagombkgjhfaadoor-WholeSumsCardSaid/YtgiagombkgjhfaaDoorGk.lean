/- What the law WholeSums returns. A text of the prover's own. -/
import Derived.Test.YtgiagombkgjhfaaDoorGj
namespace Go.Proofs
open Go.Sv Go Go.Pl
theorem rfit_fw {k x} (h : fw k x) (hk : k ≤ 100000000000) : rfit x := by
  unfold fw at h
  have h1 := wid_ten x.natAbs
  have h2 := wid_base (A := 10) (B := 10000) (by omega) (by omega) x.natAbs
  unfold rfit
  omega
set_option maxRecDepth 20000 in
theorem wholeSums_ok (s t : ByteArray) (hs : s.size ≤ 4611686018427387904) (ht : t.size ≤ 4611686018427387904) :
    PureF Tryd.prog 7 [.val (.string s), .val (.string t)] (.val (.bool true)) := by
  refine pure_enter Tryd.func7 rfl (by simp) (fun C hC => ?_)
  have e1 : fsvR (rd s) = .agg [.val (.int .i64 (rd s).2.1), .val (.int .i64 (if (rd s).2.1 = 0 then -1 else ((rd s).2.2 : Int)))] := rfl
  have e2 : fsvR (rd t) = .agg [.val (.int .i64 (rd t).2.1), .val (.int .i64 (if (rd t).2.1 = 0 then -1 else ((rd t).2.2 : Int)))] := rfl
  have fx := fw_rd s
  have fy := fw_rd t
  have r1 := read_ok s hs
  have r2 := read_ok t ht
  have q1 := rRead_ok s hs
  have q2 := rRead_ok t ht
  rw [e1] at q1
  rw [e2] at q2
  generalize (rd s).1 = x at *
  generalize (rd t).1 = y at *
  generalize (rd s).2.1 = c at *
  generalize (rd t).2.1 = c' at *
  generalize (rd s).2.2 = a at *
  generalize (rd t).2.2 = a' at *
  clear e1 e2
  simp
  refine callF q1 (by simp) ?_
  simp
  refine callF q2 (by simp) ?_
  simp
  intro _ _ hc hc'
  have hc : c = 0 := by omega
  have hc' : c' = 0 := by omega
  subst hc hc'
  have fs := fw_add fx fy
  have fl := fw_sub fx fy
  have fm := fw_mul fx fy
  have fn := fw_neg fx
  have ft : ∀ {k z}, fw k z → k ≤ 100000000000 → PureF Tryd.prog 15 [zsv z] (.val (.string (txt z))) := fun h hk => text_ok _ (fit_fw h (by omega))
  have rt : ∀ {k z}, fw k z → k ≤ 100000000000 → PureF Tryd.prog 17 [nsv z] (.val (.string (txt z))) := fun h hk => rText_ok _ (rfit_fw h hk)
  have gx := fit_fw fx (by omega)
  have gy := fit_fw fy (by omega)
  have hx := rfit_fw fx (by omega)
  have hy := rfit_fw fy (by omega)
  have fg : fw 300 ((Int.gcd x y : Nat) : Int) := by
    by_cases h0 : Int.gcd x y = 0
    · rw [h0]; exact Nat.zero_le _
    · by_cases hx0 : x = 0
      · subst hx0; rw [Int.gcd_zero_left]; simpa [fw] using fy
      · unfold fw at fx ⊢
        exact Nat.le_trans (wid_mono (by omega) (Nat.le_of_dvd (by omega) (Nat.gcd_dvd_left x.natAbs y.natAbs))) fx
  refine callF r1 (by simp) ?_
  simp
  refine callF r2 (by simp) ?_
  simp
  refine callF (add_ok x y gx gy) (by simp) ?_
  simp
  refine callF (sub_ok x y gx gy) (by simp) ?_
  simp
  refine callF (mul_ok x y gx gy) (by simp) ?_
  simp
  refine callF (neg_ok x) (by simp) ?_
  simp
  refine callF (gcd_ok x y gx gy) (by simp) ?_
  simp
  refine CodeJ.draw (.qs [0, 2, 3] <| .l 1 [] <| .l 4 [] <| .l 5 [] <| .qs [6, 7] <| .nil) (by kernel_rfl) (by kernel_rfl) (by simp) ?_
  simp
  refine callF (ft fs (by omega)) (by simp) ?_
  simp
  refine callF (rAdd_ok x y hx hy) (by simp) ?_
  simp
  refine callF (rt fs (by omega)) (by simp) ?_
  simp
  refine CodeJ.draw (.qs [0, 1, 2, 3, 5, 6] <| .l 4 [] <| .l 7 [] <| .l 8 [] <| .qs [9, 10] <| .nil) (by kernel_rfl) (by kernel_rfl) (by simp) ?_
  simp
  refine callF (ft fl (by omega)) (by simp) ?_
  simp
  refine callF (rSub_ok x y hx hy) (by simp) ?_
  simp
  refine callF (rt fl (by omega)) (by simp) ?_
  simp
  refine CodeJ.draw (.qs [0, 2, 3] <| .l 1 [] <| .l 4 [] <| .l 5 [] <| .qs [6] <| .nil) (by kernel_rfl) (by kernel_rfl) (by simp) ?_
  simp
  refine callF (ft fm (by omega)) (by simp) ?_
  simp
  refine callF (rMul_ok x y hx hy) (by simp) ?_
  simp
  refine callF (rt fm (by omega)) (by simp) ?_
  simp
  refine CodeJ.draw (.qs [0, 2] <| .l 1 [] <| .l 3 [] <| .l 4 [] <| .qs [5, 6, 7, 9, 10] <| .l 8 [] <| .l 11 [] <| .l 12 [] <| .qs [13, 14] <| .nil) (by kernel_rfl) (by kernel_rfl) (by simp) ?_
  simp
  refine callF (ft fn (by omega)) (by simp) ?_
  simp
  refine callF (rNeg_ok x) (by simp) ?_
  simp
  refine callF (rt fn (by omega)) (by simp) ?_
  simp
  refine callF (ft fg (by omega)) (by simp) ?_
  simp
  refine callF (rGcd_ok x y hx hy) (by simp) ?_
  simp
  refine callF (rt fg (by omega)) (by simp) ?_
  simp
  have cx : wid 4294967296 x.natAbs ≤ 4398046511104 := Nat.le_trans fx (by omega)
  have cy : wid 4294967296 y.natAbs ≤ 4398046511104 := Nat.le_trans fy (by omega)
  refine CodeJ.draw (.qs [0, 1, 3, 4] <| .l 2 [] <| .l 5 [] <| .qs [6, 7, 8, 10] <| .l 9 [] <| .l 11 [] <| .qs [12, 13] <| .nil) (by kernel_rfl) (by kernel_rfl) (by simp) ?_
  simp
  refine callF (cmp_ok x y cx cy) (by simp) ?_
  simp
  refine callF (rCmp_ok x y (Nat.le_trans hx (by omega)) (Nat.le_trans hy (by omega))) (by simp) ?_
  simp
  refine callF (sign_ok x) (by simp) ?_
  simp
  refine callF (rSign_ok x) (by simp) ?_
  simp
  refine callF (divmod_ok x y gx gy) (by simp) ?_
  simp
  refine callF (rDivMod_ok x y hx hy) (by simp) ?_
  simp
  have fq := fw_div y fx
  have fr : fw 300 (if y = 0 then 0 else x % y) := by
    split
    · exact Nat.zero_le _
    · rename_i h; exact fw_mod x h fy
  refine CodeJ.draw (.qs [0, 1, 2, 3, 4, 6] <| .l 5 [] <| .l 7 [] <| .qs [8, 9, 10, 11, 13] <| .l 12 [] <| .l 14 [] <| .qs [15, 16, 17] <| .nil) (by kernel_rfl) (by kernel_rfl) (by simp) ?_
  simp
  refine callF (ft fq (by omega)) (by simp) ?_
  simp
  refine callF (rt fq (by omega)) (by simp) ?_
  simp
  refine callF (ft fr (by omega)) (by simp) ?_
  simp
  refine callF (rt fr (by omega)) (by simp) ?_
  simp
end Go.Proofs
