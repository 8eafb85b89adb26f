/- What the program's functions of fractions return: Of, over, Int, Den, Num, Sign, IsWhole, Neg. A text of the prover's own. -/
import Derived.Test.YtlkaaaoeemejoaaGreatDoorQQa
namespace Go.Proofs
open Go.Sv Go Go.Pl
/-- the program's fraction -/
def rsv (q : Rat) : SV := .agg [.val (.bool (decide (q.num < 0))), .ro ((dig 4294967296 q.num.natAbs).map u32), .val (.bool false), .ro ((dig 4294967296 (q.den - 1)).map u32)]
@[simp] theorem rsv_csz (x : Rat) : (rsv x).csz = 4 := rfl
@[simp] theorem rsv_isTup (x : Rat) : (rsv x).isTup = false := rfl
@[simp] theorem rsv_isAgg (x : Rat) : (rsv x).isAgg = true := rfl
@[simp] theorem rsv_one (x : Rat) : (rsv x).one = false := rfl
@[simp] theorem rsv_pure (x : Rat) : (rsv x).pure = true := rfl
@[simp] theorem rsv_lt (n : Nat) (x : Rat) : (rsv x).lt n = true := rfl
@[simp] theorem rsv_uses (k : Nat) (x : Rat) : (rsv x).uses k = false := rfl
@[simp] theorem rsv_ks (x : Rat) : (rsv x).ks = [] := rfl
@[simp] theorem Sub_rsv (M : Tab) (x : Rat) (y : SV) : Sub M (rsv x) y = (y = rsv x) := by
  cases y with
  | agg l =>
    match l with
    | [] => simp [rsv, Sv.Sub, SubL]
    | [a] => simp [rsv, Sv.Sub, SubL]
    | [a, b] => simp [rsv, Sv.Sub, SubL]
    | [a, b, c] => simp [rsv, Sv.Sub, SubL]
    | a :: b :: c :: d :: e :: r => simp [rsv, Sv.Sub, SubL]
    | [a, b, c, d] => cases a <;> cases c <;> simp [rsv, Sv.Sub, SubL] <;> grind
  | _ => simp [rsv, Sv.Sub]
/-- both parts have at most k limbs -/
def qw (k : Nat) (q : Rat) : Prop := fw k q.num ∧ fw k (q.den : Int)
theorem abs_div_le (x : Int) (g : Nat) : (x / g).natAbs ≤ x.natAbs := Int.natAbs_ediv_le_natAbs _ _
theorem fw_one {k : Nat} (h : 1 ≤ k) : fw k 1 := Nat.le_trans (wid_le (by omega) (by decide)) h
theorem fw_zero (k : Nat) : fw k 0 := by simp [fw, wid, dig_zero]
theorem qw_divInt {k x y} (hx : fw k x) (hy : fw k y) (h1 : 1 ≤ k) : qw k (Rat.divInt x y) := by
  constructor
  · unfold fw at *
    rw [Rat.num_divInt]
    refine Nat.le_trans (wid_mono (by omega) (Nat.le_trans (abs_div_le _ _) ?_)) hx
    rw [Int.natAbs_mul]
    rcases Int.lt_trichotomy y 0 with h | h | h
    · rw [Int.sign_eq_neg_one_of_neg h]; simp
    · subst h; simp
    · rw [Int.sign_eq_one_of_pos h]; simp
  · unfold fw at *
    rw [Rat.den_divInt]
    split
    · exact fw_one h1
    · refine Nat.le_trans (wid_mono (by omega) ?_) hy
      rw [Int.natAbs_natCast]; exact Nat.div_le_self _ _
theorem qw_mono {k l q} (h : qw k q) (hk : k ≤ l) : qw l q := ⟨fw_mono h.1 hk, fw_mono h.2 hk⟩
theorem qw_add {k l x y} (hx : qw k x) (hy : qw l y) : qw (k + l + 1) (x + y) := by
  rw [← Rat.num_divInt_den x, ← Rat.num_divInt_den y, Rat.divInt_add_divInt _ _ (by have := x.den_nz; omega) (by have := y.den_nz; omega)]
  exact qw_divInt (fw_add (k := k + l) (fw_mul hx.1 hy.2) (by rw [Nat.add_comm]; exact fw_mul hy.1 hx.2)) (fw_mono (fw_mul hx.2 hy.2) (by omega)) (by omega)
theorem qw_neg {k x} (hx : qw k x) : qw k (-x) := ⟨by rw [Rat.neg_num]; exact fw_neg hx.1, hx.2⟩
theorem qw_sub {k l x y} (hx : qw k x) (hy : qw l y) : qw (k + l + 1) (x - y) := by rw [Rat.sub_eq_add_neg]; exact qw_add hx (qw_neg hy)
theorem qw_mul {k l x y} (hx : qw k x) (hy : qw l y) (h1 : 1 ≤ k + l) : qw (k + l) (x * y) := by
  rw [← Rat.num_divInt_den x, ← Rat.num_divInt_den y, Rat.divInt_mul_divInt]
  exact qw_divInt (fw_mul hx.1 hy.1) (fw_mul hx.2 hy.2) h1
theorem qw_inv {k x} (hx : qw k x) (h1 : 1 ≤ k) : qw k x⁻¹ := by
  rw [Rat.inv_def]; exact qw_divInt hx.2 hx.1 h1
theorem qw_div {k l x y} (hx : qw k x) (hy : qw l y) (h1 : 1 ≤ l) : qw (k + l) (x / y) := by
  rw [Rat.div_def]; exact qw_mul hx (qw_inv hy h1) (by omega)
theorem qw_int {k x} (hx : fw k x) (h1 : 1 ≤ k) : qw k (x : Rat) := ⟨by simpa using hx, by simpa using fw_one h1⟩
/-- what the operations take -/
def qok (q : Rat) : Prop := qw 10000000000 q
theorem qok_of {k q} (h : qw k q) (hk : k ≤ 10000000000) : qok q := qw_mono h hk
theorem den_pred (q : Rat) : ((q.den - 1 : Nat) : Int) = (q.den : Int) - 1 := by have := q.den_nz; omega
theorem rsv_den (q : Rat) : zsv ((q.den : Int) - 1) = .agg [.val (.bool false), .ro ((dig 4294967296 (q.den - 1)).map u32)] := by
  rw [← den_pred]; simp [zsv]
theorem fw_less {k : Nat} {q : Rat} (h : qw k q) : fw k ((q.den : Int) - 1) := by
  have h1 := h.2
  unfold fw at *
  have h2 := q.den_nz
  refine Nat.le_trans (wid_mono (by omega) ?_) h1
  omega
end Go.Proofs

