/- What functions of the given program return (divmod_ok), for arguments within the bounds that each theorem names. A text of the prover's own. -/
import Derived.Test.YtgiagombkgjhfaaDoorFl
namespace Go.Proofs
open Go.Sv Go Go.Pl
theorem eucl {x y q r : Int} (hy : y ≠ 0) (h : x = r + y * q) (h0 : 0 ≤ r) (h1 : r < y.natAbs) : x / y = q ∧ x % y = r := by
  subst h
  rw [Int.add_mul_ediv_left _ _ hy, Int.add_mul_emod_self_left]
  rcases Int.lt_or_gt_of_ne hy with h | h
  · have e1 : r / y = 0 := by
      rw [show y = -(-y) by omega, Int.ediv_neg, Int.ediv_eq_zero_of_lt h0 (by omega)]; rfl
    have e2 : r % y = r := by
      rw [show y = -(-y) by omega, Int.emod_neg, Int.emod_eq_of_lt h0 (by omega)]
    rw [e1, e2]; simp
  · rw [Int.ediv_eq_zero_of_lt h0 (by omega), Int.emod_eq_of_lt h0 (by omega)]; simp
theorem fit_le {x y : Int} (h : y.natAbs ≤ x.natAbs) (hx : fit x) : fit y := Nat.le_trans (wid_mono (by omega) h) hx
theorem fit_small {x : Int} (h : x.natAbs < 4294967296 ^ 3) : fit x := Nat.le_trans (wid_le (by omega) h) (by omega)
/-- made, of digits -/
theorem made_dig (b : Bool) (n : Nat) (h : wid 4294967296 n ≤ 1000000000000) : PureF Tryd.prog 74 [.val (.bool b), .ro ((dig 4294967296 n).map u32)] (zsv (if b = true then -(n : Int) else (n : Int))) := by
  have := made_ok b (dig 4294967296 n) (by simp only [wid] at h; omega) (dig_lt (by omega) n)
  rwa [val_dig (by omega)] at this
set_option maxRecDepth 20000 in
theorem divmod_ok (x y : Int) (hx : fit x) (hy : fit y) :
    PureF Tryd.prog 28 [zsv x, zsv y] (.tup [zsv (x / y), zsv (if y = 0 then 0 else x % y), .val (.bool (decide (y ≠ 0)))]) := by
  refine pure_enter Tryd.func28 rfl (by simp) (fun C hC => ?_)
  by_cases h0 : y = 0
  · subst h0
    simp [zsv, dig_zero]
  · have hy0 : y.natAbs ≠ 0 := by omega
    have hne : ¬ (dig 4294967296 y.natAbs) = [] := fun h => hy0 ((dig_eq_nil (by omega)).1 h)
    have hq1 : x.natAbs / y.natAbs ≤ x.natAbs := Nat.div_le_self _ _
    have hr1 : x.natAbs % y.natAbs ≤ x.natAbs := Nat.mod_le _ _
    have hr2 := Nat.mod_lt x.natAbs (show 0 < y.natAbs by omega)
    have hdm := Nat.div_add_mod x.natAbs y.natAbs
    have hl := long_ok x.natAbs y.natAbs hy0 (Nat.le_trans hx (by omega)) (Nat.le_trans hy (by omega))
    generalize x.natAbs / y.natAbs = Q at *
    generalize x.natAbs % y.natAbs = R at *
    have hm1 := made_dig (decide (x < 0) != decide (y < 0)) Q (Nat.le_trans (wid_mono (by omega) hq1) hx)
    have hm2 := made_dig (decide (x < 0)) R (Nat.le_trans (wid_mono (by omega) hr1) hx)
    obtain ⟨q, hq⟩ : ∃ q, q = (if (decide (x < 0) != decide (y < 0)) = true then -(Q : Int) else (Q : Int)) := ⟨_, rfl⟩
    obtain ⟨r, hr⟩ : ∃ r, r = (if decide (x < 0) = true then -(R : Int) else (R : Int)) := ⟨_, rfl⟩
    rw [← hq] at hm1
    rw [← hr] at hm2
    have hxq : x = r + y * q := by
      have hdm' : (y.natAbs : Int) * Q + R = x.natAbs := by rw [← Int.natCast_mul, ← Int.natCast_add, hdm]
      by_cases h1 : x < 0 <;> by_cases h2 : y < 0
      · have e1 : (x.natAbs : Int) = -x := by omega
        have e2 : (y.natAbs : Int) = -y := by omega
        rw [e1, e2] at hdm'; simp [h1, h2] at hq hr; subst hq hr; grind
      · have e1 : (x.natAbs : Int) = -x := by omega
        have e2 : (y.natAbs : Int) = y := by omega
        rw [e1, e2] at hdm'; simp [h1, h2] at hq hr; subst hq hr; grind
      · have e1 : (x.natAbs : Int) = x := by omega
        have e2 : (y.natAbs : Int) = -y := by omega
        rw [e1, e2] at hdm'; simp [h1, h2] at hq hr; subst hq hr; grind
      · have e1 : (x.natAbs : Int) = x := by omega
        have e2 : (y.natAbs : Int) = y := by omega
        rw [e1, e2] at hdm'; simp [h1, h2] at hq hr; subst hq hr; grind
    have hra : r.natAbs = R := by rw [hr]; split <;> omega
    have hqa : q.natAbs = Q := by rw [hq]; split <;> omega
    have fq : fit q := fit_le (x := x) (by omega) hx
    have fr : fit r := fit_le (x := x) (by omega) hx
    simp [zsv, hne, h0]
    refine callF hl (by simp) ?_
    simp
    refine CodeJ.draw (.qs [0, 1, 2, 3, 4, 5, 7, 8, 9] <| .l 6 [] <| .l 10 [] <| .l 11 [2] <| .l 12 [3] <| .nil) (by kernel_rfl) (by kernel_rfl) (by simp) ?_
    simp
    refine callF hm1 (by simp [bne]) ?_
    simp
    refine callF hm2 (by simp) ?_
    by_cases hr0 : r < 0
    · have ha := add_ok r (y.natAbs : Int) fr (by simpa [fit] using hy)
      have hyn : ¬ (y.natAbs : Int) < 0 := by omega
      simp [zsv, hr0, bne]
      refine callF ha (by simp [zsv, hr0]) ?_
      simp [zsv]
      by_cases hy1 : y < 0
      · obtain ⟨u1, u2⟩ := eucl (x := x) (y := y) (q := q + 1) (r := r + y.natAbs) h0 (by rw [hxq]; grind) (by omega) (by omega)
        have hy2 : ¬ (0 : Int) ≤ y := by omega
        simp [hy1, hy2]
        refine CodeJ.draw (.qs [0] <| .l 1 [] <| .l 2 [] <| .l 3 [2] <| .nil) (by kernel_rfl) (by kernel_rfl) (by simp) ?_
        simp
        refine callF (of_ok 1 (by omega) (by omega)) (by simp) ?_
        simp [zsv]
        refine callF (add_ok q 1 fq (fit_small (by simp))) (by simp [zsv]) ?_
        simp [zsv]
        refine CodeJ.draw (.qs [0] <| .q 1 [2] <| .l 2 [2] <| .l 3 [3] <| .qs [4] <| .nil) (by kernel_rfl) (by kernel_rfl) (by simp) ?_
        simp [zsv, u1, u2, h0]; try omega
      · obtain ⟨u1, u2⟩ := eucl (x := x) (y := y) (q := q - 1) (r := r + y.natAbs) h0 (by rw [hxq]; grind) (by omega) (by omega)
        have hy2 : 0 ≤ y := by omega
        simp [hy1, hy2]
        refine CodeJ.draw (.qs [0] <| .l 1 [] <| .l 2 [] <| .l 3 [2] <| .nil) (by kernel_rfl) (by kernel_rfl) (by simp) ?_
        simp
        refine callF (of_ok 1 (by omega) (by omega)) (by simp) ?_
        simp [zsv]
        refine callF (sub_ok q 1 fq (fit_small (by simp))) (by simp [zsv]) ?_
        simp [zsv]
        refine CodeJ.draw (.qs [0] <| .q 1 [2] <| .l 2 [2] <| .l 3 [3] <| .qs [4] <| .nil) (by kernel_rfl) (by kernel_rfl) (by simp) ?_
        simp [zsv, u1, u2, h0]; try omega
    · obtain ⟨u1, u2⟩ := eucl (x := x) (y := y) (q := q) (r := r) h0 hxq (by omega) (by omega)
      simp [zsv, hr0, bne]
      refine CodeJ.draw (.qs [0] <| .q 1 [2] <| .l 2 [2] <| .l 3 [3] <| .qs [4] <| .nil) (by kernel_rfl) (by kernel_rfl) (by simp) ?_
      simp [zsv, u1, u2, h0]; try omega
end Go.Proofs
