/- Fractions: numerators and denominators, and the simplest fraction between two; plain. A text of the prover's own; it names no program. -/
import Derived.Test.YtlkaaaoeemejoaaGreatDoorQFs
import Derived.Test.YtlkaaaoeemejoaaGreatDoorQVz
namespace Go.Pl
theorem rat_add_int (q : Rat) (k : Int) : (q + (k : Rat)).num = q.num + k * q.den ∧ (q + (k : Rat)).den = q.den := by
  have hc : (q.num + k * q.den).natAbs.gcd q.den = 1 := by
    have h := q.reduced
    unfold Nat.Coprime at h
    have h1 : Int.gcd (q.num + k * q.den) q.den = Int.gcd q.num q.den := by
      rw [Int.gcd_add_mul_right_left]
    exact h1.trans h
  have h : q + (k : Rat) = mkRat (q.num + k * q.den) q.den := by
    rw [Rat.add_def']; simp
  rw [h, Rat.mkRat_def, dif_neg q.den_nz, Rat.normalize_eq_mk' _ _ _ hc]
  exact ⟨rfl, rfl⟩
/-- the simplest of the fractions from low to high, both above nought; n rounds are enough -/
def btw : Nat → Rat → Rat → Rat
  | 0, _, _ => 0
  | n + 1, low, high =>
    if (low.ceil : Rat) ≤ high then (low.ceil : Rat)
    else (low.floor : Rat) + (btw n (high - low.floor)⁻¹ (low - low.floor)⁻¹)⁻¹

theorem rat_num_pos {q : Rat} : 0 < q.num ↔ 0 < q := by
  rw [Rat.lt_iff]; simp
theorem rat_den_pos (q : Rat) : (0 : Int) < q.den := by have := q.den_nz; omega
theorem rat_eq (q : Rat) : q * ((q.den : Int) : Rat) = q.num := by
  have := Rat.num_divInt_den q
  rw [Rat.divInt_eq_div] at this
  have h : ((q.den : Int) : Rat) ≠ 0 := by simp [q.den_nz]
  grind
theorem ceil_floor {q : Rat} (h : (q.floor : Rat) ≠ q) : q.ceil = q.floor + 1 := by
  have h1 := Rat.floor_le q
  have h2 := Rat.lt_floor_add_one q
  have h3 : q.ceil ≤ q.floor + 1 := by rw [Rat.ceil_le_iff]; exact Rat.le_of_lt h2
  have h4 : q.floor < q.ceil := by rw [Rat.lt_ceil_iff]; exact Rat.lt_of_le_of_ne h1 h
  omega
/-- one step inwards -/
theorem btw_step {low high : Rat} (h0 : 0 < low) (h1 : low ≤ high) (hc : ¬ (low.ceil : Rat) ≤ high) :
    (low.floor : Rat) < low ∧ high < (low.floor : Rat) + 1 ∧ 0 ≤ low.floor ∧ 0 < (high - low.floor)⁻¹ ∧ (high - low.floor)⁻¹ ≤ (low - low.floor)⁻¹ := by
  have f1 := Rat.floor_le low
  have f2 := Rat.lt_floor_add_one low
  have f3 : (low.floor : Rat) ≠ low := fun e => by
    apply hc
    rw [← e, Rat.ceil_intCast, e]; exact h1
  have f4 := ceil_floor f3
  rw [f4] at hc
  have f5 : (low.floor : Rat) < low := Rat.lt_of_le_of_ne f1 f3
  have f6 : high < (low.floor : Rat) + 1 := by
    have := Rat.not_le.1 hc
    simpa using this
  have f7 : 0 ≤ low.floor := by rw [Rat.le_floor_iff]; exact Rat.le_of_lt h0
  have f8 : 0 < (high - low.floor) := by grind
  have f9 : 0 < (low - low.floor) := by grind
  refine ⟨f5, f6, f7, Rat.inv_pos.2 f8, ?_⟩
  have g1 : (high - low.floor)⁻¹ * (high - low.floor) = 1 := Rat.inv_mul_cancel _ (by grind)
  have g2 : (low - low.floor)⁻¹ * (low - low.floor) = 1 := Rat.inv_mul_cancel _ (by grind)
  have g3 : (low - low.floor) ≤ (high - low.floor) := by grind
  have g4 := Rat.inv_pos.2 f8
  have g5 := Rat.inv_pos.2 f9
  generalize (low - low.floor : Rat) = u at *
  generalize (high - low.floor : Rat) = v at *
  have : v⁻¹ * u ≤ 1 := by rw [← g1]; exact Rat.mul_le_mul_of_nonneg_left g3 (Rat.le_of_lt g4)
  have : v⁻¹ * u ≤ u⁻¹ * u := by rw [g2]; exact this
  exact Rat.le_of_mul_le_mul_right this f9
/-- num and den of what is left, turned round -/
theorem left_inv {q : Rat} {f : Int} (h : (f : Rat) < q) : ((q - f)⁻¹).num = q.den ∧ (((q - f)⁻¹).den : Int) = q.num - f * q.den ∧ 0 < q.num - f * q.den := by
  have h1 := rat_add_int q (-f)
  have e : q + ((-f : Int) : Rat) = q - f := by simp; grind
  rw [e] at h1
  have h2 : 0 < q - f := by grind
  have h3 := rat_num_pos.2 h2
  obtain ⟨h4, h5⟩ := h1
  rw [Int.neg_mul] at h4
  refine ⟨?_, ?_, by omega⟩
  · rw [Rat.num_inv, h5, Int.sign_eq_one_of_pos h3]; simp
  · rw [Rat.den_inv, if_neg (by omega)]; omega
theorem den_lt {q : Rat} {f : Int} (h : (f : Rat) < q) (h' : q < (f : Rat) + 1) : (q - f)⁻¹.den < q.den := by
  obtain ⟨h1, h2, h3⟩ := left_inv h
  have : q.num - f * q.den < q.den := by
    have e := rat_eq q
    have hd : (0 : Rat) < (q.den : Int) := by rw [Rat.intCast_pos]; exact rat_den_pos q
    have : (q.num : Rat) < ((f + 1) * q.den : Int) := by
      rw [← e]
      have := (Rat.mul_lt_mul_right (c := ((q.den : Int) : Rat)) hd).2 h'
      simpa using this
    rw [Rat.intCast_lt_intCast] at this
    have e2 : (f + 1) * (q.den : Int) = f * q.den + q.den := by rw [Int.add_mul]; simp
    omega
  omega
theorem btw_ok : ∀ (n : Nat) (low high : Rat), 0 < low → low ≤ high → low.den + high.den ≤ n → low ≤ btw n low high ∧ btw n low high ≤ high ∧
    ∀ p q : Int, 0 < q → low * q ≤ p → p ≤ high * q → (btw n low high).num ≤ p ∧ ((btw n low high).den : Int) ≤ q
  | 0, low, high, _, _, hn => by have := low.den_nz; omega
  | n + 1, low, high, h0, h1, hn => by
    simp only [btw]
    split
    · rename_i hc
      refine ⟨Rat.le_ceil, hc, fun p q hq hp _ => ⟨?_, by simp; omega⟩⟩
      simp only [Rat.num_intCast]
      rw [Rat.ceil_le_iff]
      refine Rat.le_trans ?_ hp
      have : (1 : Rat) ≤ q := by have := Rat.intCast_le_intCast (a := 1) (b := q) |>.2 (by omega); simpa using this
      have := Rat.mul_le_mul_of_nonneg_left this (Rat.le_of_lt h0)
      simpa using this
    · rename_i hc
      obtain ⟨a1, a2, a3, a4, a5⟩ := btw_step h0 h1 hc
      have d1 := den_lt a1 (by grind)
      have d2 := den_lt (q := high) (f := low.floor) (by grind) a2
      obtain ⟨b1, b2, b3⟩ := btw_ok n _ _ a4 a5 (by omega)
      generalize hf : low.floor = f at *
      have u0 : 0 < low - f := by grind
      have v0 : 0 < high - f := by grind
      have g1 : (high - f)⁻¹ * (high - f) = 1 := Rat.inv_mul_cancel _ (by grind)
      have g2 : (low - f)⁻¹ * (low - f) = 1 := Rat.inv_mul_cancel _ (by grind)
      generalize hx : btw n (high - f)⁻¹ (low - f)⁻¹ = x at *
      have x0 : 0 < x := by grind
      have gx : x⁻¹ * x = 1 := Rat.inv_mul_cancel _ (by grind)
      have xi := Rat.inv_pos.2 x0
      have l1 : low - f ≤ x⁻¹ := by
        have := Rat.mul_le_mul_of_nonneg_right b2 (Rat.le_of_lt u0)
        rw [g2] at this
        refine Rat.le_of_mul_le_mul_left (c := x) ?_ x0
        rw [Rat.mul_comm x x⁻¹, gx]; exact this
      have l2 : x⁻¹ ≤ high - f := by
        have := Rat.mul_le_mul_of_nonneg_right b1 (Rat.le_of_lt v0)
        rw [g1] at this
        refine Rat.le_of_mul_le_mul_left (c := x) ?_ x0
        rw [Rat.mul_comm x x⁻¹, gx]; exact this
      refine ⟨by grind, by grind, fun p q hq hp hp' => ?_⟩
      have xn := rat_num_pos.2 x0
      obtain ⟨c1, c2⟩ := rat_add_int x⁻¹ f
      have hq' : (0 : Rat) < q := Rat.intCast_pos.2 hq
      have p1 : 0 < p - f * q := by
        have : ((f * q : Int) : Rat) < p := by
          simp
          have := (Rat.mul_lt_mul_right hq').2 a1
          grind
        have := Rat.intCast_lt_intCast.1 this
        omega
      have p0 : (0 : Rat) < ((p - f * q : Int) : Rat) := Rat.intCast_pos.2 p1
      have r1 : (high - f)⁻¹ * ((p - f * q : Int) : Rat) ≤ q := by
        refine Rat.le_of_mul_le_mul_left (c := high - f) ?_ v0
        rw [← Rat.mul_assoc, Rat.mul_comm (high - f) (high - f)⁻¹, g1]
        simp; grind
      have r2 : (q : Rat) ≤ (low - f)⁻¹ * ((p - f * q : Int) : Rat) := by
        refine Rat.le_of_mul_le_mul_left (c := low - f) ?_ u0
        rw [← Rat.mul_assoc, Rat.mul_comm (low - f) (low - f)⁻¹, g2]
        simp; grind
      obtain ⟨e1, e2⟩ := b3 q (p - f * q) p1 r1 r2
      rw [Rat.add_comm, c1, c2, Rat.num_inv, Rat.den_inv, if_neg (by omega), Int.sign_eq_one_of_pos xn]
      have e3 : (x.num.natAbs : Int) = x.num := by omega
      refine ⟨?_, by omega⟩
      rw [e3]
      have := Int.mul_le_mul_of_nonneg_left e1 a3
      omega
end Go.Pl

