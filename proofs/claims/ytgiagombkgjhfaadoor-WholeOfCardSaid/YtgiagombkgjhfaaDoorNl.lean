/- Numbers of lists by their places. A text of the prover's own. -/
import Derived.Test.YtgiagombkgjhfaaDoorPl
import Derived.Test.YtgiagombkgjhfaaDoorTy
namespace Go.Pl
open Go.Sv Go
theorem getD_in {α : Type} {l : List α} {i : Nat} {x : α} (h : i < l.length) : l.getD i x = l[i] := by simp [h]
theorem getD_out {α : Type} {l : List α} {i : Nat} {x : α} (h : l.length ≤ i) : l.getD i x = x := by simp [h]
/-- the i-th, or 0 -/
def dg (l : List Nat) (i : Nat) : Nat := l.getD i 0
theorem dg_lt {B : Nat} {l : List Nat} (h : ∀ d ∈ l, d < B) (hB : 0 < B) (i : Nat) : dg l i < B := by
  unfold dg
  rcases Nat.lt_or_ge i l.length with h' | h'
  · rw [getD_in h']; exact h _ (List.getElem_mem h')
  · rw [getD_out h']; exact hB
theorem dg_out {l : List Nat} {i : Nat} (h : l.length ≤ i) : dg l i = 0 := by unfold dg; exact getD_out h
theorem val_drop (B : Nat) (l : List Nat) (i : Nat) : val B (l.drop i) = dg l i + B * val B (l.drop (i + 1)) := by
  unfold dg
  rcases Nat.lt_or_ge i l.length with h | h
  · rw [List.drop_eq_getElem_cons h, getD_in h]; rfl
  · rw [List.drop_eq_nil_of_le h, List.drop_eq_nil_of_le (by omega), getD_out h]; simp [val]
theorem val_take (B : Nat) (l : List Nat) (i : Nat) (h : i ≤ l.length) : val B (l.take (i + 1)) = val B (l.take i) + B ^ i * dg l i := by
  unfold dg
  rcases Nat.lt_or_ge i l.length with h' | h'
  · rw [List.take_succ_eq_append_getElem h', getD_in h', val_app]
    simp [val, Nat.min_eq_left h]
  · have : i = l.length := by omega
    subst this
    rw [getD_out (Nat.le_refl _), List.take_of_length_le (by omega), List.take_of_length_le (by omega)]; simp
theorem snoc_cases {α : Type} (l : List α) : l = [] ∨ ∃ zs z, l = zs ++ [z] := by
  rcases List.eq_nil_or_concat l with h | ⟨zs, z, h⟩
  · exact .inl h
  · exact .inr ⟨zs, z, by rw [h, List.concat_eq_append]⟩
theorem trimL_take (q : List Nat) : q.take (trimL q).length = trimL q := by
  induction q with
  | nil => rfl
  | cons d q ih =>
    simp only [trimL]
    split
    · split <;> simp_all
    · rename_i e r h
      rw [h] at ih
      simp only [List.length_cons, List.take_succ_cons] at ih ⊢
      rw [ih]
theorem lt_snoc {B x : Nat} {l : List Nat} (h : ∀ d ∈ l, d < B) (hx : x < B) : ∀ d ∈ l ++ [x], d < B := by
  intro d hd
  rcases List.mem_append.1 hd with hd | hd
  · exact h d hd
  · simp at hd; omega
theorem lt_cons {B x : Nat} {l : List Nat} (h : ∀ d ∈ l, d < B) (hx : x < B) : ∀ d ∈ x :: l, d < B := by
  intro d hd
  rcases List.mem_cons.1 hd with hd | hd
  · omega
  · exact h d hd
theorem lt_set {B x : Nat} {l : List Nat} (i : Nat) (h : ∀ d ∈ l, d < B) (hx : x < B) : ∀ d ∈ l.set i x, d < B := by
  intro d hd
  rcases List.mem_or_eq_of_mem_set hd with hd | hd
  · exact h d hd
  · omega
theorem lget_u32 {xs : List Nat} {i : Nat} (h : i < xs.length) : lget (xs.map u32) i = .val (.int .u32 ((dg xs i : Nat) : Int)) := by
  rw [lget_map _ _ _ h]; simp [dg, h]
theorem lget_i64 {xs : List Nat} {i : Nat} (h : i < xs.length) : lget (xs.map i64) i = .val (.int .i64 ((dg xs i : Nat) : Int)) := by
  rw [lget_map _ _ _ h]; simp [dg, h]
theorem lget_u8 {xs : List Nat} {i : Nat} (h : i < xs.length) : lget (xs.map u8) i = .val (.int .u8 ((dg xs i : Nat) : Int)) := by
  rw [lget_map _ _ _ h]; simp [dg, h]
theorem lset_u8 (xs : List Nat) (i z : Nat) : lset (xs.map u8) i (.val (.int .u8 (z : Int))) = (xs.set i z).map u8 := by
  rw [lset_eq, ← u8_val, List.map_set]
theorem lset_u32 (xs : List Nat) (i z : Nat) : lset (xs.map u32) i (.val (.int .u32 (z : Int))) = (xs.set i z).map u32 := by
  rw [lset_eq, ← u32_val, List.map_set]
theorem lset_i64 (xs : List Nat) (i z : Nat) : lset (xs.map i64) i (.val (.int .i64 (z : Int))) = (xs.set i z).map i64 := by
  rw [lset_eq, ← i64_val, List.map_set]
theorem take_set_succ {l : List Nat} {i : Nat} (x : Nat) (h : i < l.length) : (l.set i x).take (i + 1) = l.take i ++ [x] := by
  rw [List.take_succ_eq_append_getElem (by simpa using h)]; simp [List.take_set_of_le]
theorem or_parts (x y : Int) (hx : 0 ≤ x ∧ x < 4294967296) (hy : 0 ≤ y ∧ y < 4294967296) : (((BitVec.ofInt 64 (x * 4294967296) ||| BitVec.ofInt 64 y).toNat : Nat) : Int) = x * 4294967296 + y := by
  obtain ⟨a, rfl⟩ : ∃ a : Nat, x = a := ⟨x.toNat, by omega⟩
  obtain ⟨b, rfl⟩ : ∃ b : Nat, y = b := ⟨y.toNat, by omega⟩
  have e1 : (BitVec.ofInt 64 ((a : Int) * 4294967296)).toNat = 2 ^ 32 * a := by
    rw [BitVec.toNat_ofInt]; simp; omega
  have e2 : (BitVec.ofInt 64 (b : Int)).toNat = b := by
    rw [BitVec.toNat_ofInt]; simp; omega
  rw [BitVec.toNat_or, e1, e2, ← Nat.two_pow_add_eq_or_of_lt (by omega)]
  omega
/-- two parts put together: the high one, the low one -/
theorem bits_or (x y : Int) (hx : 0 ≤ x ∧ x < 4294967296) (hy : 0 ≤ y ∧ y < 4294967296) : bwop .or .u64 (x * 4294967296) y = x * 4294967296 + y := by
  have := or_parts x y hx hy
  simp only [bwop]
  erw [this]
  rw [wu64]; omega
theorem bits_low (x : Int) (hx : 0 ≤ x ∧ x ≤ 18446744073709551615) : bwop .and .u64 x 4294967295 = x % 4294967296 := by
  obtain ⟨a, rfl⟩ : ∃ a : Nat, x = a := ⟨x.toNat, by omega⟩
  have e1 : (BitVec.ofInt 64 (a : Int)).toNat = a := by
    rw [BitVec.toNat_ofInt]; simp; omega
  have e2 : (BitVec.ofInt 64 4294967295).toNat = 2 ^ 32 - 1 := by decide
  have e3 : (BitVec.ofInt 64 (a : Int) &&& BitVec.ofInt 64 4294967295).toNat = a % 4294967296 := by
    rw [BitVec.toNat_and, e1, e2, Nat.and_two_pow_sub_one_eq_mod]
  simp only [bwop]
  erw [e3]
  rw [wu64] <;> omega
theorem val_take' (B : Nat) (l : List Nat) (i : Nat) : val B (l.take (i + 1)) = val B (l.take i) + B ^ i * dg l i := by
  rcases Nat.lt_or_ge l.length i with h | h
  · rw [List.take_of_length_le (by omega), List.take_of_length_le (by omega), dg_out (by omega)]; simp
  · exact val_take B l i h
theorem val_zero (B : Nat) : ∀ (l : List Nat), (∀ d ∈ l, d = 0) → val B l = 0
  | [], _ => rfl
  | d :: l, h => by simp [val, h d (by simp), val_zero B l fun e he => h e (by simp [he])]
theorem val_rep (B n : Nat) : val B (List.replicate n 0) = 0 := by
  induction n with
  | zero => rfl
  | succ n ih => simp [List.replicate_succ, val, ih]
theorem lget_mid (A R : List SV) {us : List Nat} {i : Nat} (h : i < us.length) : lget (A ++ (us.map u32 ++ R)) (A.length + i) = .val (.int .u32 ((dg us i : Nat) : Int)) := by
  induction A with
  | nil => simp only [List.nil_append, List.length_nil, Nat.zero_add]; rw [lget_app_lt (by simpa using h), lget_u32 h]
  | cons a A ih =>
    rw [List.length_cons, show A.length + 1 + i = A.length + i + 1 by omega]
    exact ih
theorem lset_mid (A R : List SV) {us : List Nat} {i : Nat} (z : Nat) (h : i < us.length) : lset (A ++ (us.map u32 ++ R)) (A.length + i) (.val (.int .u32 (z : Int))) = A ++ ((us.set i z).map u32 ++ R) := by
  rw [lset_eq, List.set_append_right _ _ (by omega), Nat.add_sub_cancel_left, List.set_append_left _ _ (by simpa using h), ← u32_val, List.map_set]
/-- the same, the high part told second -/
theorem bits_or2 (x y : Int) (hx : 0 ≤ x ∧ x < 4294967296) (hy : 0 ≤ y ∧ y < 4294967296) : bwop .or .u64 x (y * 4294967296) = x + y * 4294967296 := by
  have := or_parts y x hy hx
  have e : ((BitVec.ofInt 64 x ||| BitVec.ofInt 64 (y * 4294967296)).toNat : Int) = y * 4294967296 + x := by
    rw [← this, BitVec.toNat_or, BitVec.toNat_or, Nat.or_comm]
  simp only [bwop]
  erw [e]
  rw [wu64] <;> omega
theorem right_step {b d e Z : Nat} (hb : b ≤ 32) (hd : d < 4294967296) : (d + 4294967296 * (e + 4294967296 * Z)) / 2 ^ b = (d + 4294967296 * e) / 2 ^ b % 4294967296 + 4294967296 * ((e + 4294967296 * Z) / 2 ^ b) := by
  have hp : 0 < 2 ^ b := Nat.two_pow_pos b
  have hB : 4294967296 = 2 ^ b * 2 ^ (32 - b) := by rw [← Nat.pow_add, show b + (32 - b) = 32 by omega]
  obtain ⟨r, s, he, hr⟩ : ∃ r s, e = r + 2 ^ b * s ∧ r < 2 ^ b := ⟨e % 2 ^ b, e / 2 ^ b, (Nat.mod_add_div _ _).symm, Nat.mod_lt _ hp⟩
  have h1 : (d + 4294967296 * r) / 2 ^ b < 4294967296 := by
    rw [Nat.div_lt_iff_lt_mul hp]
    have := Nat.mul_le_mul_left 4294967296 (show r + 1 ≤ 2 ^ b by omega)
    omega
  have h2 : (d + 4294967296 * e) / 2 ^ b = (d + 4294967296 * r) / 2 ^ b + 4294967296 * s := by
    rw [he, show d + 4294967296 * (r + 2 ^ b * s) = (d + 4294967296 * r) + 2 ^ b * (4294967296 * s) by grind, Nat.add_mul_div_left _ _ hp]
  have h3 : (e + 4294967296 * Z) / 2 ^ b = s + 2 ^ (32 - b) * Z := by
    rw [he, show r + 2 ^ b * s + 4294967296 * Z = r + 2 ^ b * (s + 2 ^ (32 - b) * Z) by (conv => lhs; rhs; lhs; rw [hB]); grind, Nat.add_mul_div_left _ _ hp, Nat.div_eq_of_lt hr]; omega
  have h4 : (d + 4294967296 * (e + 4294967296 * Z)) / 2 ^ b = (d + 4294967296 * r) / 2 ^ b + 4294967296 * (s + 2 ^ (32 - b) * Z) := by
    rw [show d + 4294967296 * (e + 4294967296 * Z) = (d + 4294967296 * r) + 2 ^ b * (4294967296 * (s + 2 ^ (32 - b) * Z)) by
      rw [he, show r + 2 ^ b * s + 4294967296 * Z = r + 2 ^ b * (s + 2 ^ (32 - b) * Z) by (conv => lhs; rhs; lhs; rw [hB]); grind]; grind, Nat.add_mul_div_left _ _ hp]
  rw [h4, h2, h3, Nat.add_mul_mod_self_left, Nat.mod_eq_of_lt h1]
theorem dg_set {l : List Nat} {i : Nat} (x : Nat) (h : i < l.length) (j : Nat) : dg (l.set i x) j = if i = j then x else dg l j := by
  unfold dg
  simp only [List.getD_eq_getElem?_getD, List.getElem?_set, h]
  split <;> simp_all
theorem dg_rep (n i : Nat) : dg (List.replicate n 0) i = 0 := by
  unfold dg; rcases Nat.lt_or_ge i n with h | h <;> simp [h]
/-- a low part and a high one -/
theorem bwop_or32 (x y : Int) (a b k : Nat) (hx : x = a) (hy : y = ((2 ^ k * b : Nat) : Int)) (ha : a < 2 ^ k) (hs : a + 2 ^ k * b < 4294967296) : bwop .or .u32 x y = ((a + 2 ^ k * b : Nat) : Int) := by
  subst hx hy
  have e1 : (BitVec.ofInt 32 (a : Int)).toNat = a := by
    rw [BitVec.toNat_ofInt]; simp; omega
  have e2 : (BitVec.ofInt 32 ((2 ^ k * b : Nat) : Int)).toNat = 2 ^ k * b := by
    rw [BitVec.toNat_ofInt]; simp only [Nat.reducePow]; omega
  have e3 : (BitVec.ofInt 32 (a : Int) ||| BitVec.ofInt 32 ((2 ^ k * b : Nat) : Int)).toNat = a + 2 ^ k * b := by
    rw [BitVec.toNat_or, e1, e2, Nat.or_comm, ← Nat.two_pow_add_eq_or_of_lt ha]; omega
  simp only [bwop]
  erw [e3]
  rw [wu32] <;> omega
/-! Steps of reckoning by digits. -/
theorem minus_step {B P vo T a ra bw b rb bw' u : Nat} (h : vo + P * (a + B * ra) = T + P * (bw + (b + B * rb))) (e : a + B * bw' = u + b + bw) :
   vo + P * u + P * B * ra = T + P * B * (bw' + rb) := by grind
theorem mul_step {B P r1 c ro x y d u c' od : Nat} (h : r1 + P * c = ro + x * od) (e : x * y + d + c = u + B * c') :
   (r1 + P * u) + P * B * c' = (ro + P * d) + x * (od + P * y) := by grind
theorem mul_step2 {B Pi Pj r1 c ro x y d u c' od : Nat} (h : r1 + Pi * Pj * c = ro + Pi * (x * od)) (e : x * y + d + c = u + B * c') :
   (r1 + Pi * Pj * u) + Pi * Pj * B * c' = (ro + Pi * Pj * d) + Pi * (x * (od + Pj * y)) := by grind
theorem drop_set_succ {l : List Nat} {i : Nat} (x : Nat) : (l.set i x).drop (i + 1) = l.drop (i + 1) := by
  rw [List.drop_set_of_lt (by omega)]
theorem dg_drop {l l' : List Nat} {i : Nat} (h : l.drop i = l'.drop i) : dg l i = dg l' i := by
  have h1 := val_drop 0 l i
  have h2 := val_drop 0 l' i
  rw [h] at h1; simp at h1 h2; omega
theorem drop_drop_eq {l l' : List Nat} {i : Nat} (h : l.drop i = l'.drop i) : l.drop (i + 1) = l'.drop (i + 1) := by
  have := congrArg (List.drop 1) h
  simpa [List.drop_drop, Nat.add_comm] using this
theorem take_step {B P ud c b vo g vd u u' b' c' v : Nat} (h : ud + P * (c + b) = vo + g * vd) (e : u + B * b' + B * c' = u' + b + (g * v + c)) :
   (ud + P * u) + P * B * (c' + b') = (vo + P * u') + g * (vd + P * v) := by grind
theorem short_step {B P lo d rest by' hi q r N : Nat} (h : N = (lo + P * d + P * B * rest) + by' * (P * B * hi)) (e : rest * B + d = by' * q + r) :
   N = (lo + P * r) + by' * (P * (q + B * hi)) := by grind
theorem guess_dec {B K v1 v2 V0 top u2 U0 g rest q U V : Nat} (hV : V = (v1 * B + v2) * K + V0) (hU : U = (top * B + u2) * K + U0) (hU0 : U0 < K) (hq : q * V ≤ U)
    (ht : g * v1 + rest = top) (hgt : rest * B + u2 < g * v2) : q < g := by
  rcases Nat.lt_or_ge q g with h | h
  · exact h
  · exfalso
    have h1 : g * V ≤ U := Nat.le_trans (Nat.mul_le_mul_right V h) hq
    have h2 : g * ((v1 * B + v2) * K) ≤ g * V := Nat.mul_le_mul_left g (by omega)
    have h3 : top * B + u2 + 1 ≤ g * (v1 * B + v2) := by
      have : g * (v1 * B + v2) = g * v1 * B + g * v2 := by grind
      rw [this, ← ht, Nat.add_mul]; omega
    have h4 := Nat.mul_le_mul_right K h3
    rw [Nat.add_mul, Nat.one_mul, Nat.mul_assoc] at h4
    omega
theorem guess_end {B K v1 v2 V0 top u2 U0 g rest U V : Nat} (hV : V = (v1 * B + v2) * K + V0) (hU : U = (top * B + u2) * K + U0) (hV0 : V0 < K) (hv1 : 1 ≤ v1) (hg : g ≤ B)
    (ht : g * v1 + rest = top) (hle : g * v2 ≤ rest * B + u2) (hB : 0 < B) : g * V < U + V := by
  have h3 : g * (v1 * B + v2) ≤ top * B + u2 := by
    have : g * (v1 * B + v2) = g * v1 * B + g * v2 := by grind
    rw [this, ← ht, Nat.add_mul]; omega
  have h4 := Nat.mul_le_mul_right K h3
  have h5 : g * V = g * (v1 * B + v2) * K + g * V0 := by rw [hV]; grind
  have h6 : B * K ≤ V := by
    have : B * K ≤ v1 * B * K := Nat.mul_le_mul_right K (by simpa using Nat.mul_le_mul_right B hv1)
    have e : (v1 * B + v2) * K = v1 * B * K + v2 * K := by grind
    omega
  have h7 : g * V0 ≤ B * V0 := Nat.mul_le_mul_right V0 hg
  have h8 : B * V0 < B * K := Nat.mul_lt_mul_of_pos_left hV0 hB
  omega
/-- the guess is the digit, or one more -/
theorem guess_near {q g U V : Nat} (hq : U / V = q) (hV : 0 < V) (h1 : q ≤ g) (h2 : g * V < U + V) : g = q ∨ (g = q + 1) := by
  have : U < (q + 1) * V := by rw [← hq]; exact Nat.lt_mul_of_div_lt (by omega) hV
  have h3 : g * V < (q + 2) * V := by
    have : (q + 2) * V = (q + 1) * V + V := by grind
    omega
  have := Nat.lt_of_mul_lt_mul_right h3
  omega
end Go.Pl
