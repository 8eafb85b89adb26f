/- What functions of the package ratio return: Of, Int, Num, Den, Sign, IsWhole, Cmp, Neg, Add, Sub, Mul, Quo, Floor, Ceil. A text of the prover's own. -/
import Derived.Test.YtlkaaaoeemejoaaGreatDoorQQb
namespace Go.Proofs
open Go.Sv Go Go.Pl
@[simp] theorem rsv_num (q : Rat) : SV.agg ((rsv q).cells.take 2) = zsv q.num := rfl
@[simp] theorem rsv_less (q : Rat) : SV.agg (((rsv q).cells.drop 2).take 2) = zsv ((q.den : Int) - 1) := by rw [rsv_den]; rfl
@[simp] theorem zsv_cells (x : Int) : (zsv x).cells = [.val (.bool (decide (x < 0))), .ro ((dig 4294967296 x.natAbs).map u32)] := rfl
theorem rsv_mk {q : Rat} {n d : Int} (hn : n = q.num) (hd : d = (q.den : Int) - 1) : SV.agg [.val (.bool (decide (n < 0))), .ro ((dig 4294967296 n.natAbs).map u32), .val (.bool (decide (d < 0))), .ro ((dig 4294967296 d.natAbs).map u32)] = rsv q := by
  subst hn hd
  rw [← den_pred]; simp [rsv]
theorem qok_num {q : Rat} (h : qok q) : fit q.num := fit_fw h.1 (by omega)
theorem qok_den {q : Rat} (h : qok q) : fit q.den := fit_fw h.2 (by omega)
theorem qok_less {q : Rat} (h : qok q) : fit ((q.den : Int) - 1) := fit_fw (fw_less h) (by omega)
theorem fit_one : fit 1 := fit_fw (fw_one (Nat.le_refl 1)) (by omega)
set_option maxRecDepth 10000 in
theorem qDen_ok (q : Rat) (h : qok q) : PureF Tryz.prog 103 [rsv q] (zsv q.den) := by
  refine pure_enter Tryz.func103 rfl (by simp) (fun C hC => ?_)
  simp
  refine CodeJ.draw (.qs [0, 1] <| .l 2 [] <| .l 3 [] <| .l 4 [1] <| .nil) (by kernel_rfl) (by kernel_rfl) (by simp) ?_
  simp
  refine callS (of_ok 1 (by omega) (by omega)) (by simp) ?_
  simp
  refine callS (add_ok _ 1 (qok_less h) fit_one) (by simp) ?_
  simp
set_option maxRecDepth 10000 in
theorem qSign_ok (q : Rat) : PureF Tryz.prog 70 [rsv q] (.val (.int .i64 q.num.sign)) := by
  refine pure_enter Tryz.func70 rfl (by simp) (fun C hC => ?_)
  simp
  refine callS (sign_ok _) (by simp) ?_
  simp
set_option maxRecDepth 10000 in
theorem qIsWhole_ok (q : Rat) : PureF Tryz.prog 101 [rsv q] (.val (.bool (decide (q.den = 1)))) := by
  refine pure_enter Tryz.func101 rfl (by simp) (fun C hC => ?_)
  simp
  refine callS (sign_ok _) (by simp) ?_
  simp
  omega
set_option maxRecDepth 10000 in
theorem qNeg_ok (q : Rat) : PureF Tryz.prog 145 [rsv q] (rsv (-q)) := by
  refine pure_enter Tryz.func145 rfl (by simp) (fun C hC => ?_)
  simp
  refine CodeJ.draw (.qs [0, 1, 3, 4] <| .l 2 [] <| .qs [5] <| .l 6 [1] <| .nil) (by kernel_rfl) (by kernel_rfl) (by simp) ?_
  simp
  refine callS (neg_ok _) (by simp) ?_
  simp
  simp [rsv, Sv.Sub, SubL, ← den_pred]
theorem divInt_zero' (n : Int) : Rat.divInt n 0 = 0 := Rat.divInt_zero n
theorem gcd_ne {n d : Int} (h : d ≠ 0) : (Int.gcd n d : Int) ≠ 0 := by
  have := Int.gcd_pos_of_ne_zero_right n h; omega
theorem divInt_num {n d : Int} (h : d ≠ 0) : (Rat.divInt n d).num = (if d < 0 then -n else n) / (Int.gcd n d : Int) := by
  rw [Rat.num_divInt, Int.gcd_comm]
  rcases Int.lt_trichotomy d 0 with h' | h' | h'
  · rw [if_pos h', Int.sign_eq_neg_one_of_neg h']; simp
  · exact absurd h' h
  · rw [if_neg (by omega), Int.sign_eq_one_of_pos h']; simp
theorem divInt_den {n d : Int} (h : d ≠ 0) : ((Rat.divInt n d).den : Int) = (if d < 0 then -d else d) / (Int.gcd n d : Int) := by
  rw [Rat.den_divInt, if_neg h, Int.gcd_comm]
  have e : (if d < 0 then -d else d) = (d.natAbs : Int) := by split <;> omega
  rw [e]; simp
theorem divInt_pos {x y : Int} {q : Rat} (h : 0 < y) (hq : q = Rat.divInt x y) : x / (Int.gcd x y : Int) = q.num ∧ y / (Int.gcd x y : Int) = q.den := by
  rw [hq, divInt_num (by omega), divInt_den (by omega)]
  rw [if_neg (by omega), if_neg (by omega)]; exact ⟨rfl, rfl⟩
theorem fit_gcd {x y : Int} (hy : fit y) (h : y ≠ 0) : fit ((Int.gcd x y : Nat) : Int) := fit_le (by
  have := Nat.le_of_dvd (by omega) (Nat.gcd_dvd_right x.natAbs y.natAbs)
  simpa [Int.gcd] using this) hy
theorem qok_divInt {k : Nat} {x y : Int} (hx : fw k x) (hy : fw k y) (h : k + 1 ≤ 10000000000) : qok (Rat.divInt x y) := qok_of (qw_divInt (fw_mono hx (Nat.le_succ k)) (fw_mono hy (Nat.le_succ k)) (by omega)) h
set_option maxRecDepth 10000 in
theorem qOf_ok (n d : Int) (hn : fit n) (hd : fit d) : PureF Tryz.prog 153 [zsv n, zsv d] (.tup [rsv (Rat.divInt n d), .val (.bool (decide (d ≠ 0)))]) := by
  refine pure_enter Tryz.func153 rfl (by simp) (fun C hC => ?_)
  obtain ⟨q, hq⟩ : ∃ q, q = Rat.divInt n d := ⟨_, rfl⟩
  rw [← hq]
  by_cases h0 : d = 0
  · subst h0
    simp
    refine callS (sign_ok 0) (by simp) ?_
    simp [rsv, hq, Rat.divInt_zero, dig_zero]
  · simp
    refine callS (sign_ok _) (by simp) ?_
    simp [h0]
    refine callS (sign_ok _) (by simp) ?_
    by_cases hneg : d < 0
    case' pos =>
      simp [hneg]
      obtain ⟨x, hx⟩ : ∃ x, x = -n := ⟨_, rfl⟩
      obtain ⟨y, hy⟩ : ∃ y, y = -d := ⟨_, rfl⟩
      have n1 := neg_ok n
      have n2 := neg_ok d
      rw [← hx] at n1
      rw [← hy] at n2
      have hy0 : 0 < y := by omega
      have hxf : fit x := by rw [hx]; exact fit_neg.2 hn
      have hyf : fit y := by rw [hy]; exact fit_neg.2 hd
      obtain ⟨e1, e2⟩ := divInt_pos (x := x) hy0 (hq.trans (by rw [hx, hy, Rat.neg_divInt_neg]))
      refine CodeJ.draw (.qs [0, 2] <| .l 1 [] <| .l 3 [] <| .l 4 [0] <| .l 5 [1] <| .nil) (by kernel_rfl) (by kernel_rfl) (by simp) ?_
      simp
      refine callS n1 (by simp) ?_
      simp
      refine callS n2 (by simp) ?_
      simp
      clear hx hy n1 n2 hneg hq hn hd
    case' neg =>
      simp [hneg]
      have hy0 : 0 < d := by omega
      obtain ⟨e1, e2⟩ := divInt_pos hy0 hq
      obtain ⟨x, rfl⟩ : ∃ x, x = n := ⟨_, rfl⟩
      obtain ⟨y, rfl⟩ : ∃ y, y = d := ⟨_, rfl⟩
      have hxf := hn
      have hyf := hd
      clear hneg hq hn hd
    all_goals
      have hqd : fit (q.den : Int) := by rw [← e2]; exact fit_le (Int.natAbs_ediv_le_natAbs _ _) hyf
      have hsub := sub_ok q.den 1 hqd fit_one
      refine callS (gcd_ok x y hxf hyf) (by simp) ?_
      have hgf := fit_gcd (x := x) hyf (by omega)
      have hg0 : (0 : Int) < (Int.gcd x y : Nat) := by have := Int.gcd_pos_of_ne_zero_right x (b := y) (by omega); omega
      generalize ((Int.gcd x y : Nat) : Int) = g at *
      simp
      refine CodeJ.draw (.qs [0] <| .l 1 [] <| .l 2 [] <| .qs [3] <| .nil) (by kernel_rfl) (by kernel_rfl) (by simp) ?_
      simp
      refine callS (of_ok 1 (by omega) (by omega)) (by simp) ?_
      simp
      refine callS (cmp_ok g 1 (Nat.le_trans hgf (by omega)) (Nat.le_trans fit_one (by omega))) (by simp) ?_
      by_cases hg1 : g = 1
      case' pos =>
        subst hg1
        simp
        simp at e1 e2
        subst e1
        subst e2
      case' neg =>
        simp [hg1]
        have hc : ¬ (if g < 1 then (-1 : Int) else if 1 < g then 1 else 0) = 0 := by rw [if_neg (by omega), if_pos (by omega)]; omega
        have dm1 := divmod_ok x g hxf hgf
        have dm2 := divmod_ok y g hyf hgf
        rw [e1] at dm1
        rw [e2] at dm2
        simp [hc]
        refine callS dm1 (by simp) ?_
        simp
        refine callS dm2 (by simp) ?_
        simp
      all_goals
        refine CodeJ.draw (.qs [0, 1] <| .l 2 [] <| .l 3 [] <| .qs [4] <| .l 5 [2] <| .qs [6] <| .nil) (by kernel_rfl) (by kernel_rfl) (by simp) ?_
        simp
        refine callS (of_ok 1 (by omega) (by omega)) (by simp) ?_
        simp
        refine callS hsub (by simp) ?_
        simp [rsv, Sv.Sub, SubL, ← den_pred]
        try omega

set_option maxRecDepth 10000 in
theorem qOver_ok (n d : Int) (hn : fit n) (hd : fit d) : PureF Tryz.prog 130 [zsv n, zsv d] (rsv (Rat.divInt n d)) := by
  refine pure_enter Tryz.func130 rfl (by simp) (fun C hC => ?_)
  simp
  refine callS (qOf_ok n d hn hd) (by simp) ?_
  simp
theorem rsv_int (x : Int) : rsv (x : Rat) = .agg [.val (.bool (decide (x < 0))), .ro ((dig 4294967296 x.natAbs).map u32), .val (.bool false), .ro []] := by
  rfl
theorem Sub_int (M : Tab) (x : Int) : Sub M (.agg [.val (.bool (decide (x < 0))), .ro ((dig 4294967296 x.natAbs).map u32), .val (.bool false), .val (.slice none 0 0)]) (rsv (x : Rat)) := by
  rw [rsv_int]; simp [Sv.Sub, SubL]
set_option maxRecDepth 10000 in
theorem qInt_ok (n : Int) (h1 : -9223372036854775808 ≤ n) (h2 : n ≤ 9223372036854775807) : PureF Tryz.prog 49 [.val (.int .i64 n)] (rsv (n : Rat)) := by
  refine pure_enter Tryz.func49 rfl (by simp) (fun C hC => ?_)
  simp
  refine callS (of_ok n h1 h2) (by simp) ?_
  simp
  exact Sub_int _ n
theorem isWhole_eq {q : Rat} (h : q.den = 1) : q = (q.num : Rat) := Rat.ext (by simp) (by simp [h])
theorem fit2 {a b : Int} (ha : fw 10000000000 a) (hb : fw 10000000000 b) : fit (a * b) := fit_fw (fw_mul ha hb) (by omega)
theorem rat_add_eq (x y : Rat) : x + y = Rat.divInt (x.num * y.den + y.num * x.den) (x.den * y.den) := by
  rw [← Rat.divInt_add_divInt _ _ (by have := x.den_nz; omega) (by have := y.den_nz; omega), Rat.num_divInt_den, Rat.num_divInt_den]
theorem rat_mul_eq (x y : Rat) : x * y = Rat.divInt (x.num * y.num) (x.den * y.den) := by
  rw [← Rat.divInt_mul_divInt, Rat.num_divInt_den, Rat.num_divInt_den]
theorem rat_div_eq (x y : Rat) : x / y = Rat.divInt (x.num * y.den) (x.den * y.num) := by
  rw [← Rat.divInt_mul_divInt, Rat.num_divInt_den, ← Rat.inv_def, Rat.div_def]
set_option maxRecDepth 10000 in
theorem qAdd_ok (x y : Rat) (hx : qok x) (hy : qok y) : PureF Tryz.prog 71 [rsv x, rsv y] (rsv (x + y)) := by
  refine pure_enter Tryz.func71 rfl (by simp) (fun C hC => ?_)
  simp
  refine callS (qIsWhole_ok x) (by simp) ?_
  by_cases h1 : x.den = 1
  case' pos =>
    simp [h1]
    refine callS (qIsWhole_ok y) (by simp) ?_
    by_cases h2 : y.den = 1
    case pos =>
      simp [h2]
      obtain ⟨s, hs⟩ : ∃ s, s = x.num + y.num := ⟨_, rfl⟩
      have ha := add_ok x.num y.num (qok_num hx) (qok_num hy)
      rw [← hs] at ha
      have e : x + y = (s : Rat) := by rw [isWhole_eq h1, isWhole_eq h2, hs]; simp
      rw [e]
      refine callS ha (by simp) ?_
      simp
      exact Sub_int _ s
    case' neg => simp [h2]
  case' neg => simp [h1]
  all_goals
    refine CodeJ.drawZ (.d 4 <| .d 5 <| .qs [0, 2] <| .p 1 <| .p 3 <| .b ( .l 6 [3] <| .l 7 [4] <| .nil )) (by kernel_rfl) (by kernel_rfl) (by simp) ?_
    simp
    refine callV (qDen_ok x hx) (by simp) ?_
    simp
    refine callV (qDen_ok y hy) (by simp) ?_
    simp
    refine CodeJ.draw (.qs [0, 1, 2, 4, 5, 6, 9, 10] <| .l 3 [] <| .l 7 [] <| .l 8 [] <| .l 11 [] <| .l 12 [] <| .l 13 [2] <| .nil) (by kernel_rfl) (by kernel_rfl) (by simp) ?_
    simp
    refine callS (mul_ok x.num y.den (qok_num hx) (qok_den hy)) (by simp) ?_
    simp
    refine callS (mul_ok y.num x.den (qok_num hy) (qok_den hx)) (by simp) ?_
    simp
    refine callS (add_ok (x.num * y.den) (y.num * x.den) (fit2 hx.1 hy.2) (fit2 hy.1 hx.2)) (by simp) ?_
    simp
    refine callS (mul_ok x.den y.den (qok_den hx) (qok_den hy)) (by simp) ?_
    simp
    refine callS (qOver_ok _ _ (fit_fw (fw_add (fw_mul hx.1 hy.2) (fw_mul hy.1 hx.2)) (by omega)) (fit2 hx.2 hy.2)) (by simp) ?_
    simp
    rw [← rat_add_eq]
set_option maxRecDepth 10000 in
theorem qSub_ok (x y : Rat) (hx : qok x) (hy : qok y) : PureF Tryz.prog 88 [rsv x, rsv y] (rsv (x - y)) := by
  refine pure_enter Tryz.func88 rfl (by simp) (fun C hC => ?_)
  simp
  refine CodeJ.draw (.qs [0, 1] <| .l 2 [] <| .l 3 [] <| .l 4 [2] <| .nil) (by kernel_rfl) (by kernel_rfl) (by simp) ?_
  simp
  refine callS (qNeg_ok y) (by simp) ?_
  simp
  refine callS (qAdd_ok x (-y) hx (qw_neg hy)) (by simp) ?_
  simp [Rat.sub_eq_add_neg]
set_option maxRecDepth 10000 in
theorem qMul_ok (x y : Rat) (hx : qok x) (hy : qok y) : PureF Tryz.prog 72 [rsv x, rsv y] (rsv (x * y)) := by
  refine pure_enter Tryz.func72 rfl (by simp) (fun C hC => ?_)
  simp
  refine callS (qIsWhole_ok x) (by simp) ?_
  by_cases h1 : x.den = 1
  case' pos =>
    simp [h1]
    refine callS (qIsWhole_ok y) (by simp) ?_
    by_cases h2 : y.den = 1
    case pos =>
      simp [h2]
      obtain ⟨s, hs⟩ : ∃ s, s = x.num * y.num := ⟨_, rfl⟩
      have ha := mul_ok x.num y.num (qok_num hx) (qok_num hy)
      rw [← hs] at ha
      have e : x * y = (s : Rat) := by rw [isWhole_eq h1, isWhole_eq h2, hs]; simp
      rw [e]
      refine callS ha (by simp) ?_
      simp
      exact Sub_int _ s
    case' neg => simp [h2]
  case' neg => simp [h1]
  all_goals
    refine CodeJ.draw (.qs [0, 1, 2, 3, 5, 7] <| .l 4 [] <| .l 6 [] <| .l 8 [] <| .l 9 [] <| .l 10 [] <| .l 11 [2] <| .nil) (by kernel_rfl) (by kernel_rfl) (by simp) ?_
    simp
    refine callS (mul_ok x.num y.num (qok_num hx) (qok_num hy)) (by simp) ?_
    simp
    refine callS (qDen_ok x hx) (by simp) ?_
    simp
    refine callS (qDen_ok y hy) (by simp) ?_
    simp
    refine callS (mul_ok x.den y.den (qok_den hx) (qok_den hy)) (by simp) ?_
    simp
    refine callS (qOver_ok _ _ (fit2 hx.1 hy.1) (fit2 hx.2 hy.2)) (by simp) ?_
    simp
    rw [← rat_mul_eq]
set_option maxRecDepth 10000 in
theorem qCmp_ok (x y : Rat) (hx : qok x) (hy : qok y) : PureF Tryz.prog 73 [rsv x, rsv y] (.val (.int .i64 (if x < y then -1 else if y < x then 1 else 0))) := by
  refine pure_enter Tryz.func73 rfl (by simp) (fun C hC => ?_)
  simp
  refine callS (qIsWhole_ok x) (by simp) ?_
  by_cases h1 : x.den = 1
  case' pos =>
    simp [h1]
    refine callS (qIsWhole_ok y) (by simp) ?_
    by_cases h2 : y.den = 1
    case pos =>
      simp [h2]
      have hc := cmp_ok x.num y.num (Nat.le_trans (qok_num hx) (by omega)) (Nat.le_trans (qok_num hy) (by omega))
      have e1 : x.num < y.num ↔ x < y := by rw [Rat.lt_iff, h1, h2]; simp
      have e2 : y.num < x.num ↔ y < x := by rw [Rat.lt_iff, h1, h2]; simp
      simp only [e1, e2] at hc
      refine callS hc (by simp) ?_
      simp
    case' neg => simp [h2]
  case' neg => simp [h1]
  all_goals
    refine CodeJ.draw (.qs [0, 1, 2, 5, 6, 7] <| .l 3 [] <| .l 4 [] <| .l 8 [] <| .l 9 [] <| .l 10 [] <| .qs [11] <| .nil) (by kernel_rfl) (by kernel_rfl) (by simp) ?_
    have hc := cmp_ok (x.num * y.den) (y.num * x.den) (Nat.le_trans (fit2 hx.1 hy.2) (by omega)) (Nat.le_trans (fit2 hy.1 hx.2) (by omega))
    simp only [← Rat.lt_iff] at hc
    simp
    refine callS (qDen_ok y hy) (by simp) ?_
    simp
    refine callS (mul_ok x.num y.den (qok_num hx) (qok_den hy)) (by simp) ?_
    simp
    refine callS (qDen_ok x hx) (by simp) ?_
    simp
    refine callS (mul_ok y.num x.den (qok_num hy) (qok_den hx)) (by simp) ?_
    simp
    refine callS hc (by simp) ?_
    simp
set_option maxRecDepth 10000 in
theorem qQuo_ok (x y : Rat) (hx : qok x) (hy : qok y) : PureF Tryz.prog 105 [rsv x, rsv y] (.tup [rsv (x / y), .val (.bool (decide (y ≠ 0)))]) := by
  refine pure_enter Tryz.func105 rfl (by simp) (fun C hC => ?_)
  simp
  refine CodeJ.draw (.qs [0, 1, 2, 5, 7, 8] <| .l 3 [] <| .l 4 [] <| .l 6 [] <| .l 9 [] <| .l 10 [] <| .qs [11, 12] <| .l 13 [2] <| .qs [14] <| .nil) (by kernel_rfl) (by kernel_rfl) (by simp) ?_
  simp
  refine callS (qDen_ok y hy) (by simp) ?_
  simp
  refine callS (mul_ok x.num y.den (qok_num hx) (qok_den hy)) (by simp) ?_
  simp
  refine callS (qDen_ok x hx) (by simp) ?_
  simp
  refine callS (mul_ok x.den y.num (qok_den hx) (qok_num hy)) (by simp) ?_
  simp
  refine callS (qOf_ok _ _ (fit2 hx.1 hy.2) (fit2 hx.2 hy.1)) (by simp) ?_
  rw [← rat_div_eq]
  simp
  exact fun _ => x.den_nz
