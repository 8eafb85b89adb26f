/- Fractions: numerators and denominators, and the simplest fraction between two; plain. A text of the prover's own; it names no program. What the program's functions of fractions return: Of, over, Int, Den, Num, Sign, IsWhole, Neg. What functions of the package ratio return: Of, Int, Num, Den, Sign, IsWhole, Cmp, Neg, Add, Sub, Mul, Quo, Floor, Ceil. A text of the prover's own. -/
import Derived.Test.YtnimjdcaajmfcaaGreatDoorPFs
import Derived.Test.YtnimjdcaajmfcaaGreatDoorPVz
namespace Go.Pl
theorem rat_add_int (q : Rat) (k : Int) : (q + (k : Rat)).num = q.num + k * q.den ∧ (q + (k : Rat)).den = q.den := by
  have hc : (q.num + k * q.den).natAbs.gcd q.den = 1 := by
    have h := q.reduced
    unfold Nat.Coprime at h
    have h1 : Int.gcd (q.num + k * q.den) q.den = Int.gcd q.num q.den := by
      rw [Int.gcd_add_mul_right_left]
    exact h1.trans h
  have h : q + (k : Rat) = mkRat (q.num + k * q.den) q.den := by
    rw [Rat.add_def']; simp
  rw [h, Rat.mkRat_def, dif_neg q.den_nz, Rat.normalize_eq_mk' _ _ _ hc]
  exact ⟨rfl, rfl⟩
/-- the simplest of the fractions from low to high, both above nought; n rounds are enough -/
def btw : Nat → Rat → Rat → Rat
  | 0, _, _ => 0
  | n + 1, low, high =>
    if (low.ceil : Rat) ≤ high then (low.ceil : Rat)
    else (low.floor : Rat) + (btw n (high - low.floor)⁻¹ (low - low.floor)⁻¹)⁻¹

theorem rat_num_pos {q : Rat} : 0 < q.num ↔ 0 < q := by
  rw [Rat.lt_iff]; simp
theorem rat_den_pos (q : Rat) : (0 : Int) < q.den := by have := q.den_nz; omega
theorem rat_eq (q : Rat) : q * ((q.den : Int) : Rat) = q.num := by
  have := Rat.num_divInt_den q
  rw [Rat.divInt_eq_div] at this
  have h : ((q.den : Int) : Rat) ≠ 0 := by simp [q.den_nz]
  grind
theorem ceil_floor {q : Rat} (h : (q.floor : Rat) ≠ q) : q.ceil = q.floor + 1 := by
  have h1 := Rat.floor_le q
  have h2 := Rat.lt_floor_add_one q
  have h3 : q.ceil ≤ q.floor + 1 := by rw [Rat.ceil_le_iff]; exact Rat.le_of_lt h2
  have h4 : q.floor < q.ceil := by rw [Rat.lt_ceil_iff]; exact Rat.lt_of_le_of_ne h1 h
  omega
/-- one step inwards -/
theorem btw_step {low high : Rat} (h0 : 0 < low) (h1 : low ≤ high) (hc : ¬ (low.ceil : Rat) ≤ high) :
    (low.floor : Rat) < low ∧ high < (low.floor : Rat) + 1 ∧ 0 ≤ low.floor ∧ 0 < (high - low.floor)⁻¹ ∧ (high - low.floor)⁻¹ ≤ (low - low.floor)⁻¹ := by
  have f1 := Rat.floor_le low
  have f2 := Rat.lt_floor_add_one low
  have f3 : (low.floor : Rat) ≠ low := fun e => by
    apply hc
    rw [← e, Rat.ceil_intCast, e]; exact h1
  have f4 := ceil_floor f3
  rw [f4] at hc
  have f5 : (low.floor : Rat) < low := Rat.lt_of_le_of_ne f1 f3
  have f6 : high < (low.floor : Rat) + 1 := by
    have := Rat.not_le.1 hc
    simpa using this
  have f7 : 0 ≤ low.floor := by rw [Rat.le_floor_iff]; exact Rat.le_of_lt h0
  have f8 : 0 < (high - low.floor) := by grind
  have f9 : 0 < (low - low.floor) := by grind
  refine ⟨f5, f6, f7, Rat.inv_pos.2 f8, ?_⟩
  have g1 : (high - low.floor)⁻¹ * (high - low.floor) = 1 := Rat.inv_mul_cancel _ (by grind)
  have g2 : (low - low.floor)⁻¹ * (low - low.floor) = 1 := Rat.inv_mul_cancel _ (by grind)
  have g3 : (low - low.floor) ≤ (high - low.floor) := by grind
  have g4 := Rat.inv_pos.2 f8
  have g5 := Rat.inv_pos.2 f9
  generalize (low - low.floor : Rat) = u at *
  generalize (high - low.floor : Rat) = v at *
  have : v⁻¹ * u ≤ 1 := by rw [← g1]; exact Rat.mul_le_mul_of_nonneg_left g3 (Rat.le_of_lt g4)
  have : v⁻¹ * u ≤ u⁻¹ * u := by rw [g2]; exact this
  exact Rat.le_of_mul_le_mul_right this f9
/-- num and den of what is left, turned round -/
theorem left_inv {q : Rat} {f : Int} (h : (f : Rat) < q) : ((q - f)⁻¹).num = q.den ∧ (((q - f)⁻¹).den : Int) = q.num - f * q.den ∧ 0 < q.num - f * q.den := by
  have h1 := rat_add_int q (-f)
  have e : q + ((-f : Int) : Rat) = q - f := by simp; grind
  rw [e] at h1
  have h2 : 0 < q - f := by grind
  have h3 := rat_num_pos.2 h2
  obtain ⟨h4, h5⟩ := h1
  rw [Int.neg_mul] at h4
  refine ⟨?_, ?_, by omega⟩
  · rw [Rat.num_inv, h5, Int.sign_eq_one_of_pos h3]; simp
  · rw [Rat.den_inv, if_neg (by omega)]; omega
theorem den_lt {q : Rat} {f : Int} (h : (f : Rat) < q) (h' : q < (f : Rat) + 1) : (q - f)⁻¹.den < q.den := by
  obtain ⟨h1, h2, h3⟩ := left_inv h
  have : q.num - f * q.den < q.den := by
    have e := rat_eq q
    have hd : (0 : Rat) < (q.den : Int) := by rw [Rat.intCast_pos]; exact rat_den_pos q
    have : (q.num : Rat) < ((f + 1) * q.den : Int) := by
      rw [← e]
      have := (Rat.mul_lt_mul_right (c := ((q.den : Int) : Rat)) hd).2 h'
      simpa using this
    rw [Rat.intCast_lt_intCast] at this
    have e2 : (f + 1) * (q.den : Int) = f * q.den + q.den := by rw [Int.add_mul]; simp
    omega
  omega
theorem btw_ok : ∀ (n : Nat) (low high : Rat), 0 < low → low ≤ high → low.den + high.den ≤ n → low ≤ btw n low high ∧ btw n low high ≤ high ∧
    ∀ p q : Int, 0 < q → low * q ≤ p → p ≤ high * q → (btw n low high).num ≤ p ∧ ((btw n low high).den : Int) ≤ q
  | 0, low, high, _, _, hn => by have := low.den_nz; omega
  | n + 1, low, high, h0, h1, hn => by
    simp only [btw]
    split
    · rename_i hc
      refine ⟨Rat.le_ceil, hc, fun p q hq hp _ => ⟨?_, by simp; omega⟩⟩
      simp only [Rat.num_intCast]
      rw [Rat.ceil_le_iff]
      refine Rat.le_trans ?_ hp
      have : (1 : Rat) ≤ q := by have := Rat.intCast_le_intCast (a := 1) (b := q) |>.2 (by omega); simpa using this
      have := Rat.mul_le_mul_of_nonneg_left this (Rat.le_of_lt h0)
      simpa using this
    · rename_i hc
      obtain ⟨a1, a2, a3, a4, a5⟩ := btw_step h0 h1 hc
      have d1 := den_lt a1 (by grind)
      have d2 := den_lt (q := high) (f := low.floor) (by grind) a2
      obtain ⟨b1, b2, b3⟩ := btw_ok n _ _ a4 a5 (by omega)
      generalize hf : low.floor = f at *
      have u0 : 0 < low - f := by grind
      have v0 : 0 < high - f := by grind
      have g1 : (high - f)⁻¹ * (high - f) = 1 := Rat.inv_mul_cancel _ (by grind)
      have g2 : (low - f)⁻¹ * (low - f) = 1 := Rat.inv_mul_cancel _ (by grind)
      generalize hx : btw n (high - f)⁻¹ (low - f)⁻¹ = x at *
      have x0 : 0 < x := by grind
      have gx : x⁻¹ * x = 1 := Rat.inv_mul_cancel _ (by grind)
      have xi := Rat.inv_pos.2 x0
      have l1 : low - f ≤ x⁻¹ := by
        have := Rat.mul_le_mul_of_nonneg_right b2 (Rat.le_of_lt u0)
        rw [g2] at this
        refine Rat.le_of_mul_le_mul_left (c := x) ?_ x0
        rw [Rat.mul_comm x x⁻¹, gx]; exact this
      have l2 : x⁻¹ ≤ high - f := by
        have := Rat.mul_le_mul_of_nonneg_right b1 (Rat.le_of_lt v0)
        rw [g1] at this
        refine Rat.le_of_mul_le_mul_left (c := x) ?_ x0
        rw [Rat.mul_comm x x⁻¹, gx]; exact this
      refine ⟨by grind, by grind, fun p q hq hp hp' => ?_⟩
      have xn := rat_num_pos.2 x0
      obtain ⟨c1, c2⟩ := rat_add_int x⁻¹ f
      have hq' : (0 : Rat) < q := Rat.intCast_pos.2 hq
      have p1 : 0 < p - f * q := by
        have : ((f * q : Int) : Rat) < p := by
          simp
          have := (Rat.mul_lt_mul_right hq').2 a1
          grind
        have := Rat.intCast_lt_intCast.1 this
        omega
      have p0 : (0 : Rat) < ((p - f * q : Int) : Rat) := Rat.intCast_pos.2 p1
      have r1 : (high - f)⁻¹ * ((p - f * q : Int) : Rat) ≤ q := by
        refine Rat.le_of_mul_le_mul_left (c := high - f) ?_ v0
        rw [← Rat.mul_assoc, Rat.mul_comm (high - f) (high - f)⁻¹, g1]
        simp; grind
      have r2 : (q : Rat) ≤ (low - f)⁻¹ * ((p - f * q : Int) : Rat) := by
        refine Rat.le_of_mul_le_mul_left (c := low - f) ?_ u0
        rw [← Rat.mul_assoc, Rat.mul_comm (low - f) (low - f)⁻¹, g2]
        simp; grind
      obtain ⟨e1, e2⟩ := b3 q (p - f * q) p1 r1 r2
      rw [Rat.add_comm, c1, c2, Rat.num_inv, Rat.den_inv, if_neg (by omega), Int.sign_eq_one_of_pos xn]
      have e3 : (x.num.natAbs : Int) = x.num := by omega
      refine ⟨?_, by omega⟩
      rw [e3]
      have := Int.mul_le_mul_of_nonneg_left e1 a3
      omega
end Go.Pl
namespace Go.Proofs
open Go.Sv Go Go.Pl
/-- the program's fraction -/
def rsv (q : Rat) : SV := .agg [.val (.bool (decide (q.num < 0))), .ro ((dig 4294967296 q.num.natAbs).map u32), .val (.bool false), .ro ((dig 4294967296 (q.den - 1)).map u32)]
@[simp] theorem rsv_csz (x : Rat) : (rsv x).csz = 4 := rfl
@[simp] theorem rsv_isTup (x : Rat) : (rsv x).isTup = false := rfl
@[simp] theorem rsv_isAgg (x : Rat) : (rsv x).isAgg = true := rfl
@[simp] theorem rsv_one (x : Rat) : (rsv x).one = false := rfl
@[simp] theorem rsv_pure (x : Rat) : (rsv x).pure = true := rfl
@[simp] theorem rsv_lt (n : Nat) (x : Rat) : (rsv x).lt n = true := rfl
@[simp] theorem rsv_uses (k : Nat) (x : Rat) : (rsv x).uses k = false := rfl
@[simp] theorem rsv_ks (x : Rat) : (rsv x).ks = [] := rfl
@[simp] theorem Sub_rsv (M : Tab) (x : Rat) (y : SV) : Sub M (rsv x) y = (y = rsv x) := by
  cases y with
  | agg l =>
    match l with
    | [] => simp [rsv, Sv.Sub, SubL]
    | [a] => simp [rsv, Sv.Sub, SubL]
    | [a, b] => simp [rsv, Sv.Sub, SubL]
    | [a, b, c] => simp [rsv, Sv.Sub, SubL]
    | a :: b :: c :: d :: e :: r => simp [rsv, Sv.Sub, SubL]
    | [a, b, c, d] => cases a <;> cases c <;> simp [rsv, Sv.Sub, SubL] <;> grind
  | _ => simp [rsv, Sv.Sub]
/-- both parts have at most k limbs -/
def qw (k : Nat) (q : Rat) : Prop := fw k q.num ∧ fw k (q.den : Int)
theorem abs_div_le (x : Int) (g : Nat) : (x / g).natAbs ≤ x.natAbs := Int.natAbs_ediv_le_natAbs _ _
theorem fw_one {k : Nat} (h : 1 ≤ k) : fw k 1 := Nat.le_trans (wid_le (by omega) (by decide)) h
theorem fw_zero (k : Nat) : fw k 0 := by simp [fw, wid, dig_zero]
theorem qw_divInt {k x y} (hx : fw k x) (hy : fw k y) (h1 : 1 ≤ k) : qw k (Rat.divInt x y) := by
  constructor
  · unfold fw at *
    rw [Rat.num_divInt]
    refine Nat.le_trans (wid_mono (by omega) (Nat.le_trans (abs_div_le _ _) ?_)) hx
    rw [Int.natAbs_mul]
    rcases Int.lt_trichotomy y 0 with h | h | h
    · rw [Int.sign_eq_neg_one_of_neg h]; simp
    · subst h; simp
    · rw [Int.sign_eq_one_of_pos h]; simp
  · unfold fw at *
    rw [Rat.den_divInt]
    split
    · exact fw_one h1
    · refine Nat.le_trans (wid_mono (by omega) ?_) hy
      rw [Int.natAbs_natCast]; exact Nat.div_le_self _ _
theorem qw_mono {k l q} (h : qw k q) (hk : k ≤ l) : qw l q := ⟨fw_mono h.1 hk, fw_mono h.2 hk⟩
theorem qw_add {k l x y} (hx : qw k x) (hy : qw l y) : qw (k + l + 1) (x + y) := by
  rw [← Rat.num_divInt_den x, ← Rat.num_divInt_den y, Rat.divInt_add_divInt _ _ (by have := x.den_nz; omega) (by have := y.den_nz; omega)]
  exact qw_divInt (fw_add (k := k + l) (fw_mul hx.1 hy.2) (by rw [Nat.add_comm]; exact fw_mul hy.1 hx.2)) (fw_mono (fw_mul hx.2 hy.2) (by omega)) (by omega)
theorem qw_neg {k x} (hx : qw k x) : qw k (-x) := ⟨by rw [Rat.neg_num]; exact fw_neg hx.1, hx.2⟩
theorem qw_sub {k l x y} (hx : qw k x) (hy : qw l y) : qw (k + l + 1) (x - y) := by rw [Rat.sub_eq_add_neg]; exact qw_add hx (qw_neg hy)
theorem qw_mul {k l x y} (hx : qw k x) (hy : qw l y) (h1 : 1 ≤ k + l) : qw (k + l) (x * y) := by
  rw [← Rat.num_divInt_den x, ← Rat.num_divInt_den y, Rat.divInt_mul_divInt]
  exact qw_divInt (fw_mul hx.1 hy.1) (fw_mul hx.2 hy.2) h1
theorem qw_inv {k x} (hx : qw k x) (h1 : 1 ≤ k) : qw k x⁻¹ := by
  rw [Rat.inv_def]; exact qw_divInt hx.2 hx.1 h1
theorem qw_div {k l x y} (hx : qw k x) (hy : qw l y) (h1 : 1 ≤ l) : qw (k + l) (x / y) := by
  rw [Rat.div_def]; exact qw_mul hx (qw_inv hy h1) (by omega)
theorem qw_int {k x} (hx : fw k x) (h1 : 1 ≤ k) : qw k (x : Rat) := ⟨by simpa using hx, by simpa using fw_one h1⟩
/-- what the operations take -/
def qok (q : Rat) : Prop := qw 10000000000 q
theorem qok_of {k q} (h : qw k q) (hk : k ≤ 10000000000) : qok q := qw_mono h hk
theorem den_pred (q : Rat) : ((q.den - 1 : Nat) : Int) = (q.den : Int) - 1 := by have := q.den_nz; omega
theorem rsv_den (q : Rat) : zsv ((q.den : Int) - 1) = .agg [.val (.bool false), .ro ((dig 4294967296 (q.den - 1)).map u32)] := by
  rw [← den_pred]; simp [zsv]
theorem fw_less {k : Nat} {q : Rat} (h : qw k q) : fw k ((q.den : Int) - 1) := by
  have h1 := h.2
  unfold fw at *
  have h2 := q.den_nz
  refine Nat.le_trans (wid_mono (by omega) ?_) h1
  omega
end Go.Proofs
namespace Go.Proofs
open Go.Sv Go Go.Pl
@[simp] theorem rsv_num (q : Rat) : SV.agg ((rsv q).cells.take 2) = zsv q.num := rfl
@[simp] theorem rsv_less (q : Rat) : SV.agg (((rsv q).cells.drop 2).take 2) = zsv ((q.den : Int) - 1) := by rw [rsv_den]; rfl
@[simp] theorem zsv_cells (x : Int) : (zsv x).cells = [.val (.bool (decide (x < 0))), .ro ((dig 4294967296 x.natAbs).map u32)] := rfl
theorem qok_num {q : Rat} (h : qok q) : fit q.num := fit_fw h.1 (by omega)
theorem qok_den {q : Rat} (h : qok q) : fit q.den := fit_fw h.2 (by omega)
theorem qok_less {q : Rat} (h : qok q) : fit ((q.den : Int) - 1) := fit_fw (fw_less h) (by omega)
theorem fit_one : fit 1 := fit_fw (fw_one (Nat.le_refl 1)) (by omega)
set_option maxRecDepth 10000 in
theorem qDen_ok (q : Rat) (h : qok q) : PureF Tryz.prog 56 [rsv q] (zsv q.den) := by
  refine pure_enter Tryz.func56 rfl (by simp) (fun C hC => ?_)
  simp
  refine CodeJ.draw (.qs [0, 1] <| .l 2 [] <| .l 3 [] <| .l 4 [1] <| .nil) (by kernel_rfl) (by kernel_rfl) (by simp) ?_
  simp
  refine callS (of_ok 1 (by omega) (by omega)) (by simp) ?_
  simp
  refine callS (add_ok _ 1 (qok_less h) fit_one) (by simp) ?_
  simp
set_option maxRecDepth 10000 in
theorem qSign_ok (q : Rat) : PureF Tryz.prog 40 [rsv q] (.val (.int .i64 q.num.sign)) := by
  refine pure_enter Tryz.func40 rfl (by simp) (fun C hC => ?_)
  simp
  refine callS (sign_ok _) (by simp) ?_
  simp
set_option maxRecDepth 10000 in
theorem qIsWhole_ok (q : Rat) : PureF Tryz.prog 54 [rsv q] (.val (.bool (decide (q.den = 1)))) := by
  refine pure_enter Tryz.func54 rfl (by simp) (fun C hC => ?_)
  simp
  refine callS (sign_ok _) (by simp) ?_
  simp
  omega
set_option maxRecDepth 10000 in
theorem qNeg_ok (q : Rat) : PureF Tryz.prog 52 [rsv q] (rsv (-q)) := by
  refine pure_enter Tryz.func52 rfl (by simp) (fun C hC => ?_)
  simp
  refine CodeJ.draw (.qs [0, 1, 3, 4] <| .l 2 [] <| .qs [5] <| .l 6 [1] <| .nil) (by kernel_rfl) (by kernel_rfl) (by simp) ?_
  simp
  refine callS (neg_ok _) (by simp) ?_
  simp
  simp [rsv, Sv.Sub, SubL, ← den_pred]
theorem divInt_num {n d : Int} (h : d ≠ 0) : (Rat.divInt n d).num = (if d < 0 then -n else n) / (Int.gcd n d : Int) := by
  rw [Rat.num_divInt, Int.gcd_comm]
  rcases Int.lt_trichotomy d 0 with h' | h' | h'
  · rw [if_pos h', Int.sign_eq_neg_one_of_neg h']; simp
  · exact absurd h' h
  · rw [if_neg (by omega), Int.sign_eq_one_of_pos h']; simp
theorem divInt_den {n d : Int} (h : d ≠ 0) : ((Rat.divInt n d).den : Int) = (if d < 0 then -d else d) / (Int.gcd n d : Int) := by
  rw [Rat.den_divInt, if_neg h, Int.gcd_comm]
  have e : (if d < 0 then -d else d) = (d.natAbs : Int) := by split <;> omega
  rw [e]; simp
theorem divInt_pos {x y : Int} {q : Rat} (h : 0 < y) (hq : q = Rat.divInt x y) : x / (Int.gcd x y : Int) = q.num ∧ y / (Int.gcd x y : Int) = q.den := by
  rw [hq, divInt_num (by omega), divInt_den (by omega)]
  rw [if_neg (by omega), if_neg (by omega)]; exact ⟨rfl, rfl⟩
theorem fit_gcd {x y : Int} (hy : fit y) (h : y ≠ 0) : fit ((Int.gcd x y : Nat) : Int) := fit_le (by
  have := Nat.le_of_dvd (by omega) (Nat.gcd_dvd_right x.natAbs y.natAbs)
  simpa [Int.gcd] using this) hy
set_option maxRecDepth 10000 in
theorem qOf_ok (n d : Int) (hn : fit n) (hd : fit d) : PureF Tryz.prog 92 [zsv n, zsv d] (.tup [rsv (Rat.divInt n d), .val (.bool (decide (d ≠ 0)))]) := by
  refine pure_enter Tryz.func92 rfl (by simp) (fun C hC => ?_)
  obtain ⟨q, hq⟩ : ∃ q, q = Rat.divInt n d := ⟨_, rfl⟩
  rw [← hq]
  by_cases h0 : d = 0
  · subst h0
    simp
    refine callS (sign_ok 0) (by simp) ?_
    simp [rsv, hq, Rat.divInt_zero, dig_zero]
  · simp
    refine callS (sign_ok _) (by simp) ?_
    simp [h0]
    refine callS (sign_ok _) (by simp) ?_
    by_cases hneg : d < 0
    case' pos =>
      simp [hneg]
      obtain ⟨x, hx⟩ : ∃ x, x = -n := ⟨_, rfl⟩
      obtain ⟨y, hy⟩ : ∃ y, y = -d := ⟨_, rfl⟩
      have n1 := neg_ok n
      have n2 := neg_ok d
      rw [← hx] at n1
      rw [← hy] at n2
      have hy0 : 0 < y := by omega
      have hxf : fit x := by rw [hx]; exact fit_neg.2 hn
      have hyf : fit y := by rw [hy]; exact fit_neg.2 hd
      obtain ⟨e1, e2⟩ := divInt_pos (x := x) hy0 (hq.trans (by rw [hx, hy, Rat.neg_divInt_neg]))
      refine CodeJ.draw (.qs [0, 2] <| .l 1 [] <| .l 3 [] <| .l 4 [0] <| .l 5 [1] <| .nil) (by kernel_rfl) (by kernel_rfl) (by simp) ?_
      simp
      refine callS n1 (by simp) ?_
      simp
      refine callS n2 (by simp) ?_
      simp
      clear hx hy n1 n2 hneg hq hn hd
    case' neg =>
      simp [hneg]
      have hy0 : 0 < d := by omega
      obtain ⟨e1, e2⟩ := divInt_pos hy0 hq
      obtain ⟨x, rfl⟩ : ∃ x, x = n := ⟨_, rfl⟩
      obtain ⟨y, rfl⟩ : ∃ y, y = d := ⟨_, rfl⟩
      have hxf := hn
      have hyf := hd
      clear hneg hq hn hd
    all_goals
      have hqd : fit (q.den : Int) := by rw [← e2]; exact fit_le (Int.natAbs_ediv_le_natAbs _ _) hyf
      have hsub := sub_ok q.den 1 hqd fit_one
      refine callS (gcd_ok x y hxf hyf) (by simp) ?_
      have hgf := fit_gcd (x := x) hyf (by omega)
      have hg0 : (0 : Int) < (Int.gcd x y : Nat) := by have := Int.gcd_pos_of_ne_zero_right x (b := y) (by omega); omega
      generalize ((Int.gcd x y : Nat) : Int) = g at *
      simp
      refine CodeJ.draw (.qs [0] <| .l 1 [] <| .l 2 [] <| .qs [3] <| .nil) (by kernel_rfl) (by kernel_rfl) (by simp) ?_
      simp
      refine callS (of_ok 1 (by omega) (by omega)) (by simp) ?_
      simp
      refine callS (cmp_ok g 1 (Nat.le_trans hgf (by omega)) (Nat.le_trans fit_one (by omega))) (by simp) ?_
      by_cases hg1 : g = 1
      case' pos =>
        subst hg1
        simp
        simp at e1 e2
        subst e1
        subst e2
      case' neg =>
        simp [hg1]
        have hc : ¬ (if g < 1 then (-1 : Int) else if 1 < g then 1 else 0) = 0 := by rw [if_neg (by omega), if_pos (by omega)]; omega
        have dm1 := divmod_ok x g hxf hgf
        have dm2 := divmod_ok y g hyf hgf
        rw [e1] at dm1
        rw [e2] at dm2
        simp [hc]
        refine callS dm1 (by simp) ?_
        simp
        refine callS dm2 (by simp) ?_
        simp
      all_goals
        refine CodeJ.draw (.qs [0, 1] <| .l 2 [] <| .l 3 [] <| .qs [4] <| .l 5 [2] <| .qs [6] <| .nil) (by kernel_rfl) (by kernel_rfl) (by simp) ?_
        simp
        refine callS (of_ok 1 (by omega) (by omega)) (by simp) ?_
        simp
        refine callS hsub (by simp) ?_
        simp [rsv, Sv.Sub, SubL, ← den_pred]
        try omega

set_option maxRecDepth 10000 in
theorem qOver_ok (n d : Int) (hn : fit n) (hd : fit d) : PureF Tryz.prog 105 [zsv n, zsv d] (rsv (Rat.divInt n d)) := by
  refine pure_enter Tryz.func105 rfl (by simp) (fun C hC => ?_)
  simp
  refine callS (qOf_ok n d hn hd) (by simp) ?_
  simp
theorem rsv_int (x : Int) : rsv (x : Rat) = .agg [.val (.bool (decide (x < 0))), .ro ((dig 4294967296 x.natAbs).map u32), .val (.bool false), .ro []] := by
  rfl
theorem Sub_int (M : Tab) (x : Int) : Sub M (.agg [.val (.bool (decide (x < 0))), .ro ((dig 4294967296 x.natAbs).map u32), .val (.bool false), .val (.slice none 0 0)]) (rsv (x : Rat)) := by
  rw [rsv_int]; simp [Sv.Sub, SubL]
set_option maxRecDepth 10000 in
theorem qInt_ok (n : Int) (h1 : -9223372036854775808 ≤ n) (h2 : n ≤ 9223372036854775807) : PureF Tryz.prog 51 [.val (.int .i64 n)] (rsv (n : Rat)) := by
  refine pure_enter Tryz.func51 rfl (by simp) (fun C hC => ?_)
  simp
  refine callS (of_ok n h1 h2) (by simp) ?_
  simp
  exact Sub_int _ n
theorem isWhole_eq {q : Rat} (h : q.den = 1) : q = (q.num : Rat) := Rat.ext (by simp) (by simp [h])
theorem fit2 {a b : Int} (ha : fw 10000000000 a) (hb : fw 10000000000 b) : fit (a * b) := fit_fw (fw_mul ha hb) (by omega)
theorem rat_add_eq (x y : Rat) : x + y = Rat.divInt (x.num * y.den + y.num * x.den) (x.den * y.den) := by
  rw [← Rat.divInt_add_divInt _ _ (by have := x.den_nz; omega) (by have := y.den_nz; omega), Rat.num_divInt_den, Rat.num_divInt_den]
theorem rat_mul_eq (x y : Rat) : x * y = Rat.divInt (x.num * y.num) (x.den * y.den) := by
  rw [← Rat.divInt_mul_divInt, Rat.num_divInt_den, Rat.num_divInt_den]
theorem rat_div_eq (x y : Rat) : x / y = Rat.divInt (x.num * y.den) (x.den * y.num) := by
  rw [← Rat.divInt_mul_divInt, Rat.num_divInt_den, ← Rat.inv_def, Rat.div_def]
set_option maxRecDepth 10000 in
theorem qAdd_ok (x y : Rat) (hx : qok x) (hy : qok y) : PureF Tryz.prog 129 [rsv x, rsv y] (rsv (x + y)) := by
  refine pure_enter Tryz.func129 rfl (by simp) (fun C hC => ?_)
  simp
  refine callS (qIsWhole_ok x) (by simp) ?_
  by_cases h1 : x.den = 1
  case' pos =>
    simp [h1]
    refine callS (qIsWhole_ok y) (by simp) ?_
    by_cases h2 : y.den = 1
    case pos =>
      simp [h2]
      obtain ⟨s, hs⟩ : ∃ s, s = x.num + y.num := ⟨_, rfl⟩
      have ha := add_ok x.num y.num (qok_num hx) (qok_num hy)
      rw [← hs] at ha
      have e : x + y = (s : Rat) := by rw [isWhole_eq h1, isWhole_eq h2, hs]; simp
      rw [e]
      refine callS ha (by simp) ?_
      simp
      exact Sub_int _ s
    case' neg => simp [h2]
  case' neg => simp [h1]
  all_goals
    refine CodeJ.drawZ (.d 4 <| .d 5 <| .qs [0, 2] <| .p 1 <| .p 3 <| .b ( .l 6 [3] <| .l 7 [4] <| .nil )) (by kernel_rfl) (by kernel_rfl) (by simp) ?_
    simp
    refine callV (qDen_ok x hx) (by simp) ?_
    simp
    refine callV (qDen_ok y hy) (by simp) ?_
    simp
    refine CodeJ.draw (.qs [0, 1, 2, 4, 5, 6, 9, 10] <| .l 3 [] <| .l 7 [] <| .l 8 [] <| .l 11 [] <| .l 12 [] <| .l 13 [2] <| .nil) (by kernel_rfl) (by kernel_rfl) (by simp) ?_
    simp
    refine callS (mul_ok x.num y.den (qok_num hx) (qok_den hy)) (by simp) ?_
    simp
    refine callS (mul_ok y.num x.den (qok_num hy) (qok_den hx)) (by simp) ?_
    simp
    refine callS (add_ok (x.num * y.den) (y.num * x.den) (fit2 hx.1 hy.2) (fit2 hy.1 hx.2)) (by simp) ?_
    simp
    refine callS (mul_ok x.den y.den (qok_den hx) (qok_den hy)) (by simp) ?_
    simp
    refine callS (qOver_ok _ _ (fit_fw (fw_add (fw_mul hx.1 hy.2) (fw_mul hy.1 hx.2)) (by omega)) (fit2 hx.2 hy.2)) (by simp) ?_
    simp
    rw [← rat_add_eq]
set_option maxRecDepth 10000 in
theorem qSub_ok (x y : Rat) (hx : qok x) (hy : qok y) : PureF Tryz.prog 94 [rsv x, rsv y] (rsv (x - y)) := by
  refine pure_enter Tryz.func94 rfl (by simp) (fun C hC => ?_)
  simp
  refine CodeJ.draw (.qs [0, 1] <| .l 2 [] <| .l 3 [] <| .l 4 [2] <| .nil) (by kernel_rfl) (by kernel_rfl) (by simp) ?_
  simp
  refine callS (qNeg_ok y) (by simp) ?_
  simp
  refine callS (qAdd_ok x (-y) hx (qw_neg hy)) (by simp) ?_
  simp [Rat.sub_eq_add_neg]
set_option maxRecDepth 10000 in
theorem qMul_ok (x y : Rat) (hx : qok x) (hy : qok y) : PureF Tryz.prog 53 [rsv x, rsv y] (rsv (x * y)) := by
  refine pure_enter Tryz.func53 rfl (by simp) (fun C hC => ?_)
  simp
  refine callS (qIsWhole_ok x) (by simp) ?_
  by_cases h1 : x.den = 1
  case' pos =>
    simp [h1]
    refine callS (qIsWhole_ok y) (by simp) ?_
    by_cases h2 : y.den = 1
    case pos =>
      simp [h2]
      obtain ⟨s, hs⟩ : ∃ s, s = x.num * y.num := ⟨_, rfl⟩
      have ha := mul_ok x.num y.num (qok_num hx) (qok_num hy)
      rw [← hs] at ha
      have e : x * y = (s : Rat) := by rw [isWhole_eq h1, isWhole_eq h2, hs]; simp
      rw [e]
      refine callS ha (by simp) ?_
      simp
      exact Sub_int _ s
    case' neg => simp [h2]
  case' neg => simp [h1]
  all_goals
    refine CodeJ.draw (.qs [0, 1, 2, 3, 5, 7] <| .l 4 [] <| .l 6 [] <| .l 8 [] <| .l 9 [] <| .l 10 [] <| .l 11 [2] <| .nil) (by kernel_rfl) (by kernel_rfl) (by simp) ?_
    simp
    refine callS (mul_ok x.num y.num (qok_num hx) (qok_num hy)) (by simp) ?_
    simp
    refine callS (qDen_ok x hx) (by simp) ?_
    simp
    refine callS (qDen_ok y hy) (by simp) ?_
    simp
    refine callS (mul_ok x.den y.den (qok_den hx) (qok_den hy)) (by simp) ?_
    simp
    refine callS (qOver_ok _ _ (fit2 hx.1 hy.1) (fit2 hx.2 hy.2)) (by simp) ?_
    simp
    rw [← rat_mul_eq]
set_option maxRecDepth 10000 in
theorem qQuo_ok (x y : Rat) (hx : qok x) (hy : qok y) : PureF Tryz.prog 41 [rsv x, rsv y] (.tup [rsv (x / y), .val (.bool (decide (y ≠ 0)))]) := by
  refine pure_enter Tryz.func41 rfl (by simp) (fun C hC => ?_)
  simp
  refine CodeJ.draw (.qs [0, 1, 2, 5, 7, 8] <| .l 3 [] <| .l 4 [] <| .l 6 [] <| .l 9 [] <| .l 10 [] <| .qs [11, 12] <| .l 13 [2] <| .qs [14] <| .nil) (by kernel_rfl) (by kernel_rfl) (by simp) ?_
  simp
  refine callS (qDen_ok y hy) (by simp) ?_
  simp
  refine callS (mul_ok x.num y.den (qok_num hx) (qok_den hy)) (by simp) ?_
  simp
  refine callS (qDen_ok x hx) (by simp) ?_
  simp
  refine callS (mul_ok x.den y.num (qok_den hx) (qok_num hy)) (by simp) ?_
  simp
  refine callS (qOf_ok _ _ (fit2 hx.1 hy.2) (fit2 hx.2 hy.1)) (by simp) ?_
  rw [← rat_div_eq]
  simp
  exact fun _ => x.den_nz
