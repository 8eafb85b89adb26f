/- What functions of the given program return (add_ok, sub_ok), for arguments within the bounds that each theorem names. A text of the prover's own. -/
import Derived.Test.YtgiagombkgjhfaaDoorFd
namespace Go.Proofs
open Go.Sv Go Go.Pl
/-- not too great to be reckoned with -/
def fit (x : Int) : Prop := wid 4294967296 x.natAbs ≤ 1000000000000
set_option maxRecDepth 10000 in
theorem add_ok (x y : Int) (hm : fit x) (hn : fit y) :
    PureF Tryd.prog 25 [zsv x, zsv y] (zsv (x + y)) := by
  refine pure_enter Tryd.func25 rfl (by simp) (fun C hC => ?_)
  have B2 : 2 ≤ 4294967296 := by omega
  have vx := val_dig B2 x.natAbs
  have vy := val_dig B2 y.natAbs
  have lx := dig_lt B2 x.natAbs
  have ly := dig_lt B2 y.natAbs
  have hm' := hm
  have hn' := hn
  simp only [fit, wid] at hm' hn'
  by_cases hs : (x < 0 ↔ y < 0)
  · simp [zsv, hs]
    refine CodeJ.draw (.qs [0, 1, 2, 3, 4, 5] <| .l 6 [] <| .l 7 [] <| .l 8 [2] <| .nil) (by kernel_rfl) (by kernel_rfl) (by simp) ?_
    simp
    refine callP (plus_ok _ _ lx ly (by omega) (by omega)) (by simp) ?_
    rintro _ ⟨l, rfl, h1, h2, h3⟩
    simp
    have e : (if decide (y < 0) = true then -(val 4294967296 l : Int) else (val 4294967296 l : Int)) = x + y := by
      rw [h2, vx, vy]; split <;> simp_all <;> omega
    have hmd := made_ok (decide (y < 0)) l (by omega) h1
    rw [e] at hmd
    refine callF hmd (by simp) ?_
    simp [zsv]
  · have hc := compare_ok _ _ (show wid 4294967296 x.natAbs ≤ 4398046511104 by simp only [wid]; omega) (show wid 4294967296 y.natAbs ≤ 4398046511104 by simp only [wid]; omega)
    have hle : ∀ {m n : Nat}, m ≤ n → (dig 4294967296 m).length ≤ (dig 4294967296 n).length := fun h => wid_mono B2 h
    rcases Nat.lt_or_ge x.natAbs y.natAbs with h | h
    · have e0 : cmp3 x.natAbs y.natAbs = -1 := by simp [cmp3, h]
      rw [e0] at hc
      have hmi := minus_ok _ _ ly lx (by omega) (hle (by omega)) (y.natAbs - x.natAbs) (by rw [vx, vy]; omega)
      simp [zsv, hs]
      refine callF hc (by simp) ?_
      simp
      refine CodeJ.draw (.qs [0, 1, 2, 3, 4, 5] <| .l 6 [] <| .l 7 [] <| .l 8 [2] <| .nil) (by kernel_rfl) (by kernel_rfl) (by simp) ?_
      simp
      refine callP hmi (by simp) ?_
      rintro _ ⟨l, rfl, h1, h2, h3⟩
      simp
      have e : (if decide (y < 0) = true then -(val 4294967296 l : Int) else (val 4294967296 l : Int)) = x + y := by
        rw [h2]; split <;> simp_all <;> omega
      have hmd := made_ok (decide (y < 0)) l (by omega) h1
      rw [e] at hmd
      refine callF hmd (by simp) ?_
      simp [zsv]
    · have e0 : cmp3 x.natAbs y.natAbs = if y.natAbs < x.natAbs then 1 else 0 := by simp [cmp3]; omega
      rw [e0] at hc
      have hmi := minus_ok _ _ lx ly (by omega) (hle (by omega)) (x.natAbs - y.natAbs) (by rw [vx, vy]; omega)
      simp [zsv, hs]
      refine callF hc (by simp) ?_
      have e1 : ¬ (if y.natAbs < x.natAbs then (1 : Int) else 0) < 0 := by split <;> omega
      simp [e1]
      refine CodeJ.draw (.qs [0, 1, 2, 3, 4, 5] <| .l 6 [] <| .l 7 [] <| .l 8 [2] <| .nil) (by kernel_rfl) (by kernel_rfl) (by simp) ?_
      simp
      refine callP hmi (by simp) ?_
      rintro _ ⟨l, rfl, h1, h2, h3⟩
      simp
      have e : (if decide (x < 0) = true then -(val 4294967296 l : Int) else (val 4294967296 l : Int)) = x + y := by
        rw [h2]; split <;> simp_all <;> omega
      have hmd := made_ok (decide (x < 0)) l (by omega) h1
      rw [e] at hmd
      refine callF hmd (by simp) ?_
      simp [zsv]
theorem fit_neg {x : Int} : fit (-x) ↔ fit x := by simp [fit]
set_option maxRecDepth 10000 in
theorem sub_ok (x y : Int) (hm : fit x) (hn : fit y) :
    PureF Tryd.prog 27 [zsv x, zsv y] (zsv (x - y)) := by
  refine pure_enter Tryd.func27 rfl (by simp) (fun C hC => ?_)
  simp
  refine CodeJ.draw (.qs [0, 1] <| .l 2 [] <| .l 3 [] <| .l 4 [2] <| .nil) (by kernel_rfl) (by kernel_rfl) (by simp) ?_
  simp
  refine callF (neg_ok y) (by simp) ?_
  simp
  refine callF (add_ok x (-y) hm (fit_neg.2 hn)) (by simp) ?_
  simp [Int.sub_eq_add_neg]
end Go.Proofs
