/- What functions of the given program return (right_ok), for arguments within the bounds that each theorem names. A text of the prover's own. -/
import Derived.Test.YtgiagombkgjhfaaDoorFj
namespace Go.Proofs
open Go.Sv Go Go.Pl
set_option maxRecDepth 10000 in
theorem right_ok (m : List Nat) (b : Nat) (hm : ∀ d ∈ m, d < 4294967296) (hb : b < 32) (hl : m.length ≤ 4398046511104) :
    PureF Tryd.prog 111 [.ro (m.map u32), .val (.int .u64 b)] (.ro ((dig 4294967296 (val 4294967296 m / 2 ^ b)).map u32)) := by
  refine pure_enter Tryd.func111 rfl (by simp) (fun C hC => ?_)
  simp (disch := omega) [w64]
  refine ⟨by omega, ?_⟩
  refine CodeJ.loop (ι := List Nat × Nat) (fun ⟨o, i⟩ => ⟨45, [(0, .ro (m.map u32)), (1, .val (.int .u64 b)), (5, .view 0 0 m.length), (12, .val (.int .i64 m.length)), (13, .val (.int .i64 i))], [some ⟨1, o.map u32, false⟩]⟩)
    (fun ⟨o, i⟩ => o.length = m.length ∧ i ≤ m.length ∧ (∀ d ∈ o, d < 4294967296) ∧ val 4294967296 (o.take i) + 4294967296 ^ i * (val 4294967296 (m.drop i) / 2 ^ b) = val 4294967296 m / 2 ^ b)
    (fun ⟨o, i⟩ => m.length - i) (List.replicate m.length 0, 0) ?_ ?_ ?_
  · exact ⟨by simp, by omega, by simp, by simp [val]⟩
  · simp [leS, hC]
  · rintro ⟨o, i⟩ ⟨h1, h2, h3, h4⟩
    by_cases hlt : i < m.length
    · have b0 := dg_lt hm (by omega) i
      have b1 := dg_lt hm (by omega) (i + 1)
      obtain ⟨y, hy⟩ : ∃ y, y = (dg m i + 4294967296 * dg m (i + 1)) / 2 ^ b % 4294967296 := ⟨_, rfl⟩
      have hp : (0 : Nat) < 2 ^ b := Nat.two_pow_pos b
      have hmin : min b 64 = b := by omega
      have F := lt_set i h3 (show y < 4294967296 by omega)
      have G : val 4294967296 ((o.set i y).take (i + 1)) + 4294967296 ^ (i + 1) * (val 4294967296 (m.drop (i + 1)) / 2 ^ b) = val 4294967296 m / 2 ^ b := by
        rw [take_set_succ _ (by omega), val_app, List.length_take, Nat.min_eq_left (by omega), Nat.pow_succ]
        rw [val_drop _ m i, val_drop _ m (i + 1), right_step (by omega) b0, ← val_drop _ m (i + 1), ← hy] at h4
        simp only [val, Nat.mul_zero, Nat.add_zero]
        rw [← h4]; grind
      by_cases hlv : i + 1 < m.length
      · have e1 : ((dg m i : Int) + dg m (i + 1) * 4294967296) / 2 ^ b % 4294967296 = y := by
          rw [hy]; simp [Int.mul_comm]
        have hlv' : (i : Int) + 1 < m.length := by omega
        simp (disch := omega) [w64, wu64, hlt, hlv', lget_u32, u32w, bits_or2, e1, lset_u32, -List.map_set]
        repeat refine And.intro (by omega) ?_
        refine ⟨o.set i y, i + 1, ⟨by simpa using h1, by omega, F, G⟩, by omega, by simp [leS, hC]⟩
      · have e1 : (dg m i : Int) / 2 ^ b % 4294967296 = y := by
          have := dg_out (l := m) (i := i + 1) (by omega)
          rw [hy, this]; simp
        have hlv' : ¬ (i : Int) + 1 < m.length := by omega
        simp (disch := omega) [w64, wu64, hlt, hlv', lget_u32, u32w, e1, lset_u32, -List.map_set]
        repeat refine And.intro (by omega) ?_
        refine ⟨o.set i y, i + 1, ⟨by simpa using h1, by omega, F, G⟩, by omega, by simp [leS, hC]⟩
    · obtain rfl : i = m.length := by omega
      simp (disch := omega) [w64]
      have e1 : m.drop m.length = [] := List.drop_eq_nil_of_le (by omega)
      rw [e1, List.take_of_length_le (by omega)] at h4
      simp [val] at h4
      have := trim_ok o (by omega)
      rw [← dig_val (by omega) o h3, h4] at this
      refine callF this (by simp [List.take_of_length_le, h1]) ?_
      simp
end Go.Proofs
