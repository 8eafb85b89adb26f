/- What functions of the given program return (mul_ok), for arguments within the bounds that each theorem names. A text of the prover's own. -/
import Derived.Test.YtgiagombkgjhfaaDoorFe
namespace Go.Proofs
open Go.Sv Go Go.Pl
theorem sgn_mul (x y : Int) : (if (decide (x < 0) != decide (y < 0)) = true then -((x.natAbs * y.natAbs : Nat) : Int) else ((x.natAbs * y.natAbs : Nat) : Int)) = x * y := by
  rw [Int.natCast_mul]
  by_cases h1 : x < 0 <;> by_cases h2 : y < 0
  · have e1 : (x.natAbs : Int) = -x := by omega
    have e2 : (y.natAbs : Int) = -y := by omega
    simp [h1, h2, e1, e2, Int.neg_mul, Int.mul_neg]
  · have e1 : (x.natAbs : Int) = -x := by omega
    have e2 : (y.natAbs : Int) = y := by omega
    simp [h1, h2, e1, e2, Int.neg_mul, Int.mul_neg]
  · have e1 : (x.natAbs : Int) = x := by omega
    have e2 : (y.natAbs : Int) = -y := by omega
    simp [h1, h2, e1, e2, Int.neg_mul, Int.mul_neg]
  · have e1 : (x.natAbs : Int) = x := by omega
    have e2 : (y.natAbs : Int) = y := by omega
    simp [h1, h2, e1, e2, Int.neg_mul, Int.mul_neg]
set_option maxRecDepth 10000 in
theorem mul_ok (x y : Int) (hm : fit x) (hn : fit y) :
    PureF Tryd.prog 24 [zsv x, zsv y] (zsv (x * y)) := by
  refine pure_enter Tryd.func24 rfl (by simp) (fun C hC => ?_)
  have B2 : 2 ≤ 4294967296 := by omega
  have vx := val_dig B2 x.natAbs
  have vy := val_dig B2 y.natAbs
  have lx := dig_lt B2 x.natAbs
  have ly := dig_lt B2 y.natAbs
  have hxm : (if (decide (x < 0) != decide (y < 0)) = true then -((x.natAbs * y.natAbs : Nat) : Int) else ((x.natAbs * y.natAbs : Nat) : Int)) = x * y := sgn_mul x y
  simp only [fit, wid] at hm hn
  simp [zsv]
  generalize dig 4294967296 x.natAbs = a at *
  generalize dig 4294967296 y.natAbs = b at *
  simp (disch := omega) [w64]
  refine ⟨by omega, ?_⟩
  refine CodeJ.loop (ι := List Nat × Nat)
    (fun ⟨o, i⟩ => ⟨78, [(2, .ptr 0 0 0), (3, .ptr 1 0 0), (4, .ptr 2 0 0), (5, .view 3 0 (a.length + b.length)), (21, .ro (a.map u32)), (22, .val (.int .i64 a.length)), (23, .val (.int .i64 i))],
      [some ⟨2, [.agg [.val (.bool (decide (x < 0))), .ro (a.map u32)]], false⟩, some ⟨2, [.agg [.val (.bool (decide (y < 0))), .ro (b.map u32)]], false⟩, some ⟨2, [.agg [.val (.bool false), .val (.slice none 0 0)]], false⟩, some ⟨1, o.map u32, false⟩]⟩)
    (fun ⟨o, i⟩ => o.length = a.length + b.length ∧ i ≤ a.length ∧ (∀ d ∈ o, d < 4294967296) ∧ val 4294967296 (o.take (i + b.length)) = val 4294967296 (a.take i) * val 4294967296 b)
    (fun ⟨o, i⟩ => a.length - i) (List.replicate (a.length + b.length) 0, 0) ?_ ?_ ?_
  · refine ⟨by simp, by omega, by simp, ?_⟩
    simp [val_rep]
    simp [val]
  · simp [leS, hC]
  · rintro ⟨o, i⟩ ⟨h1, h2, h3, h4⟩
    by_cases hlt : i < a.length
    · simp (disch := omega) [hlt, w64, hC, lget_u32, u32w, u64w]
      have bx := dg_lt lx (by omega) i
      refine CodeJ.loop (ι := List Nat × Nat × Nat)
        (fun ⟨o', j, c⟩ => ⟨78, [(2, .ptr 0 0 0), (3, .ptr 1 0 0), (4, .ptr 2 0 0), (5, .view 3 0 (a.length + b.length)), (6, .val (.int .i64 i)), (7, .val (.int .u32 (dg a i))), (8, .val (.int .u64 c)), (21, .ro (a.map u32)), (22, .val (.int .i64 a.length)), (23, .val (.int .i64 i)),
            (29, .ro (b.map u32)), (30, .val (.int .i64 b.length)), (31, .val (.int .i64 j))],
          [some ⟨2, [.agg [.val (.bool (decide (x < 0))), .ro (a.map u32)]], false⟩, some ⟨2, [.agg [.val (.bool (decide (y < 0))), .ro (b.map u32)]], false⟩, some ⟨2, [.agg [.val (.bool false), .val (.slice none 0 0)]], false⟩, some ⟨1, o'.map u32, false⟩]⟩)
        (fun ⟨o', j, c⟩ => o'.length = a.length + b.length ∧ j ≤ b.length ∧ c < 4294967296 ∧ (∀ d ∈ o', d < 4294967296) ∧ o'.drop (i + j) = o.drop (i + j) ∧
          val 4294967296 (o'.take (i + j)) + 4294967296 ^ i * 4294967296 ^ j * c = val 4294967296 (o.take (i + j)) + 4294967296 ^ i * (dg a i * val 4294967296 (b.take j)))
        (fun ⟨o', j, c⟩ => b.length - j) (o, 0, 0) ?_ ?_ ?_
      · exact ⟨h1, by omega, by omega, h3, rfl, by simp [val]⟩
      · simp [leS, hC]
      · rintro ⟨o', j, c⟩ ⟨g1, g2, g3, g4, g5, g6⟩
        by_cases hlj : j < b.length
        · have bo := dg_lt g4 (by omega) (i + j)
          have by_ := dg_lt ly (by omega) j
          obtain ⟨t, ht⟩ : ∃ t, t = dg a i * dg b j + dg o' (i + j) + c := ⟨_, rfl⟩
          have hxy : dg a i * dg b j ≤ 4294967295 * 4294967295 := Nat.mul_le_mul (by omega) (by omega)
          have hxy' : (dg a i : Int) * dg b j ≤ 18446744065119617025 := by rw [← Int.natCast_mul]; omega
          have hxy0 : (0 : Int) ≤ (dg a i : Int) * dg b j := by rw [← Int.natCast_mul]; omega
          have F := lt_set (i + j) g4 (Nat.mod_lt t (show 0 < 4294967296 by omega))
          have K : val 4294967296 ((o'.set (i + j) (t % 4294967296)).take (i + (j + 1))) + 4294967296 ^ i * 4294967296 ^ (j + 1) * (t / 4294967296) = val 4294967296 (o.take (i + (j + 1))) + 4294967296 ^ i * (dg a i * val 4294967296 (b.take (j + 1))) := by
            rw [← Nat.add_assoc, take_set_succ _ (by omega), val_app, List.length_take, Nat.min_eq_left (by omega), val_take _ o _ (by omega), val_take _ b _ (by omega)]
            simp only [val, Nat.mul_zero, Nat.add_zero, Nat.pow_succ, Nat.pow_add]
            rw [dg_drop g5] at ht
            have e := Nat.mod_add_div t 4294967296
            have := mul_step2 g6 (show dg a i * dg b j + dg o (i + j) + c = t % 4294967296 + 4294967296 * (t / 4294967296) by omega)
            simpa [Nat.mul_assoc] using this
          simp (disch := omega) [hlj, w64, hC, lget_u32, u32w, wu64]
          refine ⟨by omega, by omega, by omega, by omega, o'.set (i + j) (t % 4294967296), j + 1, t / 4294967296, ⟨by simpa using g1, by omega, by omega, F, ?_, K⟩, by omega, ?_⟩
          · rw [← Nat.add_assoc, drop_set_succ]; exact drop_drop_eq g5
          · subst ht
            simp [leS, hC, lset_eq]
        · obtain rfl : j = b.length := by omega
          simp (disch := omega) [w64, hC, lget_u32, u32w]
          have e : (c : Int) % 4294967296 = c := by omega
          have tb : b.take b.length = b := List.take_length
          refine ⟨by omega, by omega, o'.set (i + b.length) c, i + 1, ⟨by simpa using g1, by omega, lt_set _ g4 g3, ?_⟩, by omega, by simp [leS, hC, lset_eq, e]⟩
          rw [show i + 1 + b.length = i + b.length + 1 by omega, take_set_succ _ (by omega), val_app, List.length_take, Nat.min_eq_left (by omega), val_take _ a _ (by omega), Nat.pow_add]
          rw [tb, h4] at g6
          simp only [val, Nat.mul_zero, Nat.add_zero]
          rw [g6]; grind
    · obtain rfl : i = a.length := by omega
      simp (disch := omega) [w64, hC, lget_u32, u32w, u64w]
      have e1 : a.take a.length = a := List.take_length
      have e2 : o.take (a.length + b.length) = o := List.take_of_length_le (by omega)
      rw [e1, e2, vx, vy] at h4
      have hmd := made_ok (decide (x < 0) != decide (y < 0)) o (by omega) h3
      rw [h4, hxm] at hmd
      refine callF hmd (by simp [List.take_of_length_le, h1, bne]) ?_
      simp [zsv]
end Go.Proofs
