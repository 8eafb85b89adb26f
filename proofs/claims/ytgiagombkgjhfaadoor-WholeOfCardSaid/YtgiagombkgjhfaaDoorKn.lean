/- Long division, digit by digit: plain lists and numbers. A text of the prover's own. -/
import Derived.Test.YtgiagombkgjhfaaDoorNl
namespace Go.Pl
theorem dg_take {l : List Nat} {n i : Nat} (h : i < n) : dg (l.take n) i = dg l i := by
  unfold dg; simp [List.getElem?_take, h]
theorem dg_drop' (l : List Nat) (n i : Nat) : dg (l.drop n) i = dg l (n + i) := by
  unfold dg; simp [List.getElem?_drop]
theorem lt_take {B n : Nat} {l : List Nat} (h : ∀ d ∈ l, d < B) : ∀ d ∈ l.take n, d < B := fun d hd => h d (List.mem_of_mem_take hd)
theorem lt_drop {B n : Nat} {l : List Nat} (h : ∀ d ∈ l, d < B) : ∀ d ∈ l.drop n, d < B := fun d hd => h d (List.mem_of_mem_drop hd)

/-- a part of the digits, those above it noughts -/
theorem long_seg {B j n : Nat} {us : List Nat} {V : Nat} (hB : 2 ≤ B) (hu : ∀ d ∈ us, d < B) (hl : j + n + 1 ≤ us.length) (hV : V < B ^ n) (h : val B us < V * B ^ (j + 1)) :
    val B us = val B (us.take j) + B ^ j * val B ((us.drop j).take (n + 1)) ∧ val B ((us.drop j).take (n + 1)) < V * B ∧ ((us.drop j).take (n + 1)).length = n + 1 ∧ val B (us.drop (j + n + 1)) = 0 := by
  have hp : 0 < B ^ j := Nat.pow_pos (by omega)
  have e1 : us = us.take j ++ ((us.drop j).take (n + 1) ++ us.drop (j + n + 1)) := by
    have : us.drop (j + n + 1) = (us.drop j).drop (n + 1) := by rw [List.drop_drop, Nat.add_assoc]
    rw [this, List.take_append_drop, List.take_append_drop]
  have hlen : ((us.drop j).take (n + 1)).length = n + 1 := by simp; omega
  have e2 : val B us = val B (us.take j) + B ^ j * (val B ((us.drop j).take (n + 1)) + B ^ (n + 1) * val B (us.drop (j + n + 1))) := by
    conv => lhs; rw [e1]
    rw [val_app, val_app, hlen, List.length_take, Nat.min_eq_left (by omega)]
  have hz : val B (us.drop (j + n + 1)) = 0 := by
    rcases Nat.eq_zero_or_pos (val B (us.drop (j + n + 1))) with h0 | h0
    · exact h0
    · exfalso
      have h1 : B ^ j * (B ^ (n + 1) * 1) ≤ val B us := by
        rw [e2]
        have := Nat.mul_le_mul_left (B ^ j) (Nat.mul_le_mul_left (B ^ (n + 1)) (show 1 ≤ _ from h0))
        rw [Nat.mul_add]; omega
      have h2 : V * B ^ (j + 1) < B ^ n * B ^ (j + 1) := Nat.mul_lt_mul_of_pos_right hV (Nat.pow_pos (by omega))
      have h3 : B ^ j * (B ^ (n + 1) * 1) = B ^ n * B ^ (j + 1) := by grind
      omega
  rw [hz] at e2
  simp only [Nat.mul_zero, Nat.add_zero] at e2
  refine ⟨e2, ?_, hlen, hz⟩
  rw [e2, Nat.pow_succ] at h
  have h4 : B ^ j * val B ((us.drop j).take (n + 1)) < B ^ j * (V * B) := by
    have : V * (B ^ j * B) = B ^ j * (V * B) := by grind
    omega
  exact Nat.lt_of_mul_lt_mul_left h4

/-- the three highest digits of n + 3 -/
theorem val_top3 {B n : Nat} {S : List Nat} (h : S.length = n + 3) : val B S = ((dg S (n + 2) * B + dg S (n + 1)) * B + dg S n) * B ^ n + val B (S.take n) := by
  have e : S = S.take (n + 3) := (List.take_of_length_le (by omega)).symm
  conv => lhs; rw [e]
  rw [val_take', val_take', val_take']
  grind
theorem val_top2 {B n : Nat} {S : List Nat} (h : S.length = n + 2) : val B S = (dg S (n + 1) * B + dg S n) * B ^ n + val B (S.take n) := by
  have e : S = S.take (n + 2) := (List.take_of_length_le (by omega)).symm
  conv => lhs; rw [e]
  rw [val_take', val_take']
  grind
theorem val_take_lt {B n : Nat} {S : List Nat} (h : ∀ d ∈ S, d < B) (hl : n ≤ S.length) : val B (S.take n) < B ^ n := by
  have := val_lt (S.take n) (lt_take h)
  rwa [List.length_take, Nat.min_eq_left hl] at this

/-- where the guessing begins -/
theorem guess_start {B K v1 v2 V0 top u2 U0 U V : Nat} (hV : V = (v1 * B + v2) * K + V0) (hU : U = (top * B + u2) * K + U0) (hU0 : U0 < K) (hu2 : u2 < B) (hv1 : 0 < v1) : U / V ≤ top / v1 := by
  rw [Nat.le_div_iff_mul_le hv1]
  rcases Nat.eq_zero_or_pos V with h0 | h0
  · rw [h0]; simp
  have h1 : U / V * V ≤ U := Nat.div_mul_le_self U V
  have h2 : U / V * (v1 * B * K) ≤ U / V * V := Nat.mul_le_mul_left _ (by rw [hV, Nat.add_mul]; omega)
  have h3 : U < (top + 1) * (B * K) := by
    have : (top * B + u2 + 1) * K ≤ ((top + 1) * B) * K := Nat.mul_le_mul_right K (by rw [Nat.add_mul]; omega)
    rw [hU]
    have e : (top * B + u2 + 1) * K = (top * B + u2) * K + K := by grind
    have e2 : (top + 1) * B * K = (top + 1) * (B * K) := by grind
    omega
  have h4 : U / V * v1 * (B * K) < (top + 1) * (B * K) := by
    have : U / V * v1 * (B * K) = U / V * (v1 * B * K) := by grind
    omega
  have := Nat.lt_of_mul_lt_mul_right h4
  omega
/-- the highest digit of what is divided is no greater than the highest one of what divides -/
theorem top_le {B K v1 v2 V0 u0 u1 u2 U0 U V : Nat} (hV : V = (v1 * B + v2) * K + V0) (hU : U = ((u0 * B + u1) * B + u2) * K + U0) (hV0 : V0 < K) (hv2 : v2 < B) (h : U < V * B) : u0 ≤ v1 := by
  have h1 : V < (v1 + 1) * (B * K) := by
    have : (v1 * B + v2 + 1) * K ≤ ((v1 + 1) * B) * K := Nat.mul_le_mul_right K (by rw [Nat.add_mul]; omega)
    have e : (v1 * B + v2 + 1) * K = (v1 * B + v2) * K + K := by grind
    have e2 : (v1 + 1) * B * K = (v1 + 1) * (B * K) := by grind
    omega
  have h2 : u0 * (B * K) * B ≤ U := by
    have : U = u0 * (B * K) * B + ((u1 * B + u2) * K + U0) := by rw [hU]; grind
    omega
  have h3 : V * B ≤ (v1 + 1) * (B * K) * B := Nat.mul_le_mul_right B (Nat.le_of_lt h1)
  have h4 : u0 * (B * K * B) < (v1 + 1) * (B * K * B) := by
    have e1 : u0 * (B * K) * B = u0 * (B * K * B) := by grind
    have e2 : (v1 + 1) * (B * K) * B = (v1 + 1) * (B * K * B) := by grind
    omega
  have := Nat.lt_of_mul_lt_mul_right h4
  omega
theorem dig_last {B n : Nat} (hB : 2 ≤ B) (hn : n ≠ 0) : dg (dig B n) ((dig B n).length - 1) ≠ 0 := by
  have h := trimL_dig hB n
  rcases snoc_cases (dig B n) with h0 | ⟨zs, z, h0⟩
  · exact absurd ((dig_eq_nil hB).1 h0) hn
  · rw [h0] at h ⊢
    have e : dg (zs ++ [z]) ((zs ++ [z]).length - 1) = z := by unfold dg; simp
    rw [e]
    rintro rfl
    rw [trimL_zero] at h
    have := trimL_le zs
    rw [h] at this
    simp at this
    omega
/-- the highest digit moved up -/
theorem top_up {B n t : Nat} {b : List Nat} (hb : ∀ d ∈ b, d < B) (hl : b.length = n + 1) (hB : B = 2 ^ t * (B / 2 ^ t)) (ht : 2 ^ t * dg b n < B) : val B b * 2 ^ t < B ^ (n + 1) := by
  have e : b = b.take (n + 1) := (List.take_of_length_le (by omega)).symm
  have h1 := val_take_lt hb (show n ≤ b.length by omega)
  have h2 : val B b = val B (b.take n) + B ^ n * dg b n := by conv => lhs; rw [e, val_take']
  have hp : 0 < 2 ^ t := Nat.two_pow_pos t
  have h3 : (dg b n + 1) * 2 ^ t ≤ B := by
    rw [hB] at ht ⊢
    have := Nat.lt_of_mul_lt_mul_left ht
    rw [Nat.mul_comm]
    exact Nat.mul_le_mul_left _ this
  have h4 : val B b < B ^ n * (dg b n + 1) := by rw [h2, Nat.mul_add]; omega
  have h5 : val B b * 2 ^ t < B ^ n * (dg b n + 1) * 2 ^ t := Nat.mul_lt_mul_of_pos_right h4 hp
  have h6 : B ^ n * (dg b n + 1) * 2 ^ t ≤ B ^ n * B := by rw [Nat.mul_assoc]; exact Nat.mul_le_mul_left _ h3
  rw [Nat.pow_succ]; omega
theorem val_ge {B n : Nat} {l : List Nat} (hl : l.length = n + 1) : dg l n * B ^ n ≤ val B l := by
  have e : l = l.take (n + 1) := (List.take_of_length_le (by omega)).symm
  have h2 : val B l = val B (l.take n) + B ^ n * dg l n := by conv => lhs; rw [e, val_take']
  rw [h2, Nat.mul_comm]; omega
theorem top_ge {B n x : Nat} {l : List Nat} (hB : 0 < B) (hl : l.length = n + 1) (hd : ∀ d ∈ l, d < B) (h : x * B ^ n ≤ val B l) : x ≤ dg l n := by
  have e : l = l.take (n + 1) := (List.take_of_length_le (by omega)).symm
  have h2 : val B l = val B (l.take n) + B ^ n * dg l n := by conv => lhs; rw [e, val_take']
  have h1 := val_take_lt hd (show n ≤ l.length by omega)
  have h3 : x * B ^ n < (dg l n + 1) * B ^ n := by
    have : (dg l n + 1) * B ^ n = B ^ n * dg l n + B ^ n := by rw [Nat.add_mul, Nat.mul_comm]; omega
    omega
  have := Nat.lt_of_mul_lt_mul_right h3
  omega
theorem long_facts {B j n : Nat} {us vs : List Nat} (hB : 2 ≤ B) (hu : ∀ d ∈ us, d < B) (hv : ∀ d ∈ vs, d < B) (hl : j + n + 1 ≤ us.length) (hvl : vs.length = n) (hn : 2 ≤ n) (h : val B us < val B vs * B ^ (j + 1)) :
    ∃ S, S = (us.drop j).take (n + 1) ∧ S.length = n + 1 ∧ (∀ d ∈ S, d < B) ∧ val B us = val B (us.take j) + B ^ j * val B S ∧ val B S < val B vs * B ∧
      val B S = ((dg us (j + n) * B + dg us (j + n - 1)) * B + dg us (j + n - 2)) * B ^ (n - 2) + val B (S.take (n - 2)) ∧ val B (S.take (n - 2)) < B ^ (n - 2) ∧
      val B vs = (dg vs (n - 1) * B + dg vs (n - 2)) * B ^ (n - 2) + val B (vs.take (n - 2)) ∧ val B (vs.take (n - 2)) < B ^ (n - 2) ∧ val B (us.drop (j + n + 1)) = 0 := by
  have hV : val B vs < B ^ n := by have := val_lt vs hv; rwa [hvl] at this
  obtain ⟨h1, h2, h3, h4⟩ := long_seg hB hu hl hV h
  obtain ⟨k, rfl⟩ : ∃ k, n = k + 2 := ⟨n - 2, by omega⟩
  refine ⟨_, rfl, h3, lt_take (lt_drop hu), h1, h2, ?_, ?_, ?_, ?_, h4⟩
  · have := val_top3 (B := B) (n := k) h3
    rw [dg_take (by omega), dg_take (by omega), dg_take (by omega), dg_drop', dg_drop', dg_drop'] at this
    exact this
  · exact val_take_lt (lt_take (lt_drop hu)) (by rw [h3]; omega)
  · exact val_top2 hvl
  · exact val_take_lt hv (by omega)
/-- what is left below is the rest -/
theorem val_low {B n : Nat} {us : List Nat} (h : val B us < B ^ n) (hl : n ≤ us.length) : val B (us.take n) = val B us := by
  have e : val B us = val B (us.take n) + B ^ n * val B (us.drop n) := by
    conv => lhs; rw [← List.take_append_drop n us]
    rw [val_app, List.length_take, Nat.min_eq_left hl]
  rcases Nat.eq_zero_or_pos (val B (us.drop n)) with h0 | h0
  · rw [e, h0]; simp
  · have := Nat.mul_le_mul_left (B ^ n) (show 1 ≤ _ from h0)
    omega
theorem long_end {m n P U Q : Nat} (hn : 0 < n) (hP : 0 < P) (h : m * P = U + n * P * Q) (hU : U < n * P) : Q = m / n ∧ U / P = m % n := by
  have e : U = P * (m - n * Q) := by
    have : n * P * Q = P * (n * Q) := by grind
    rw [Nat.mul_sub, Nat.mul_comm P m]; omega
  have h1 : U / P = m - n * Q := by rw [e]; exact Nat.mul_div_cancel_left _ hP
  have h2 : m - n * Q < n := by
    rw [e, Nat.mul_comm n P] at hU
    exact Nat.lt_of_mul_lt_mul_left hU
  have h3 : n * Q ≤ m := by
    have : n * Q * P ≤ m * P := by rw [h, Nat.mul_right_comm]; omega
    exact Nat.le_of_mul_le_mul_right this hP
  obtain ⟨r, rfl⟩ : ∃ r, m = n * Q + r := ⟨m - n * Q, by omega⟩
  rw [Nat.add_sub_cancel_left] at h1 h2
  rw [h1, Nat.mul_add_div hn, Nat.mul_add_mod, Nat.div_eq_of_lt h2, Nat.mod_eq_of_lt h2]
  simp
/-- the digit, or one more -/
def near1 (q g : Nat) : Prop := g = q ∨ g = q + 1
theorem take_zero {U o g V : Nat} (hV : 0 < V) (h : near1 (U / V) g) (e : U = o + g * V) : g = U / V ∧ o = U % V := by
  have h1 := Nat.div_add_mod U V
  have h2 := Nat.mod_lt U hV
  rcases h with h | h
  · refine ⟨h, ?_⟩
    rw [Nat.mul_comm, ← h] at h1; omega
  · exfalso
    rw [h, Nat.add_mul, Nat.mul_comm (U / V)] at e
    omega
theorem take_one {U P o o' c g V : Nat} (hV : 0 < V) (hVP : V ≤ P) (h : near1 (U / V) g) (e : U + P = o + g * V) (ho : o < P) (e' : o + V = o' + P * c) (ho' : o' < P) : g = U / V + 1 ∧ o' = U % V := by
  have h1 := Nat.div_add_mod U V
  have h2 := Nat.mod_lt U hV
  rcases h with h | h
  · exfalso
    rw [h, Nat.mul_comm] at e
    omega
  · refine ⟨h, ?_⟩
    rw [h, Nat.add_mul, Nat.mul_comm (U / V)] at e
    rcases Nat.lt_trichotomy c 1 with hc | hc | hc
    · obtain rfl : c = 0 := by omega
      simp at e'; omega
    · subst hc; omega
    · have := Nat.mul_le_mul_left P (show 2 ≤ c from hc)
      omega
theorem long_next {B P m V L U q rest Q : Nat} (h : m = (L + P * U) + V * (P * B * Q)) (hq : U = V * q + rest) : m = (L + P * rest) + V * (P * (q + B * Q)) := by
  subst hq; grind
end Go.Pl
