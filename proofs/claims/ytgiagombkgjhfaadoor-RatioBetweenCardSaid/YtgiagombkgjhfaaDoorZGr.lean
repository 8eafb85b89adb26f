/- What the law RatioBetween returns. A text of the prover's own. -/
import Derived.Test.YtgiagombkgjhfaaDoorZQo
namespace Go.Proofs
open Go.Sv Go Go.Pl
theorem smp_least {low high : Rat} (h : ¬ high < low) : (smp low high).2 = true ∧ low ≤ (smp low high).1 ∧ (smp low high).1 ≤ high ∧
    ∀ p q : Int, 0 < q → low * q ≤ p → p ≤ high * q → ((smp low high).1.den : Int) ≤ q := by
  unfold smp
  rw [if_neg h]
  by_cases h2 : low ≤ 0 ∧ 0 ≤ high
  · rw [if_pos h2]
    exact ⟨rfl, h2.1, h2.2, fun p q hq _ _ => by show (((0 : Rat).den : Nat) : Int) ≤ q; have : (0 : Rat).den = 1 := rfl; omega⟩
  · rw [if_neg h2]
    rcases smp_pos h h2 with ⟨h3, h4, h5⟩ | ⟨h3, h4, h5⟩
    · rw [if_pos h3]
      obtain ⟨b1, b2, b3⟩ := btw_ok (low.den + high.den) (-high) (-low) h4 h5 (by simp; omega)
      refine ⟨rfl, ?_, ?_, fun p q hq h6 h7 => ?_⟩
      · show low ≤ -_; grind
      · show -_ ≤ high; grind
      · show ((-_ : Rat).den : Int) ≤ q
        rw [Rat.neg_den]
        refine (b3 (-p) q hq ?_ ?_).2
        · rw [Rat.neg_mul, Rat.intCast_neg]; grind
        · rw [Rat.neg_mul, Rat.intCast_neg]; grind
    · rw [if_neg h3]
      obtain ⟨b1, b2, b3⟩ := btw_ok (low.den + high.den) low high h4 h5 (Nat.le_refl _)
      exact ⟨rfl, b1, b2, fun p q hq h6 h7 => (b3 p q hq h6 h7).2⟩
theorem smp_none {low high : Rat} {d : Int} (h : ¬ high < low) (h1 : 1 ≤ d) (h2 : d < (smp low high).1.den) : (high * d).floor < (low * d).ceil := by
  by_cases h3 : (high * d).floor < (low * d).ceil
  · exact h3
  have := (smp_least h).2.2.2 (low * d).ceil d (by omega) Rat.le_ceil (by rw [← Rat.le_floor_iff]; omega)
  omega
def thd : Rat := 1 / 3
theorem smp_half : smp (0 + thd) (1 - thd) = (1 / 2, true) := by decide +kernel
theorem qtxt_half : qtxt (1 / 2) = ⟨#[49, 47, 50]⟩ := by kernel_rfl
set_option maxRecDepth 20000 in
theorem third_ok : PureF Tryd.prog 69 [] (rsv thd) := by
  refine pure_enter Tryd.func69 rfl (by simp) (fun C hC => ?_)
  have h1 : qok ((1 : Int) : Rat) := qok_of (qw_int (fw_one (Nat.le_refl 1)) (by omega)) (by omega)
  have h3 : qok ((3 : Int) : Rat) := qok_of (qw_int (k := 1) (wid_le (by omega) (by decide +kernel)) (by omega)) (by omega)
  simp
  refine callS (qInt_ok 1 (by omega) (by omega)) (by simp) ?_
  simp
  refine callS (qInt_ok 3 (by omega) (by omega)) (by simp) ?_
  simp
  refine callS (qQuo_ok _ _ h1 h3) (by simp) ?_
  simp [thd]
theorem fw_n64 {n : Int} (h1 : -9223372036854775808 ≤ n) (h2 : n ≤ 9223372036854775807) : fw 2 n := wid_le (by omega) (by omega)
/-- behind the check that the fraction lies between -/
def BI11 (x y : Rat) (st : St) : Prop := ∃ (z : Rat) (N : Nat), N ≤ 60 ∧ (∀ d : Int, 1 ≤ d → d < N → (y * d).floor < (x * d).ceil) ∧
  st = ⟨123, [(7, .ptr 1 0 0), (9, .ptr 2 0 0), (15, .val (.int .i64 N))], [some ⟨4, [rsv (1 / 2)], false⟩, some ⟨4, [rsv x], false⟩, some ⟨4, [rsv y], false⟩, some ⟨4, [rsv z], false⟩, some ⟨2, [zsv z.den], false⟩]⟩
set_option maxRecDepth 20000 in
theorem ratioBetween_ok (s t : ByteArray) (hs : s.size ≤ 4611686018427387904) (ht : t.size ≤ 4611686018427387904) :
    PureF Tryd.prog 11 [.val (.string s), .val (.string t)] (.val (.bool true)) := by
  refine pure_enterJ Tryd.func11 rfl (by simp) (fun C hC => ?_)
  have fx := qw_qrd s
  have fy := qw_qrd t
  have q1 := qRead_ok s hs
  have q2 := qRead_ok t ht
  unfold outQ at q1 q2
  generalize (qrd 300 s).1 = x at *
  generalize (qrd 300 t).1 = y at *
  generalize (qrd 300 s).2.1 = c at *
  generalize (qrd 300 t).2.1 = c' at *
  generalize (qrd 300 s).2.2 = a at *
  generalize (qrd 300 t).2.2 = a' at *
  have w3 : qw 1 thd := ⟨wid_le (by omega) (by decide +kernel), wid_le (by omega) (by decide +kernel)⟩
  have w0 : qw 1 0 := qw_zero (by omega)
  have w1 : qw 1 1 := ⟨fw_one (by omega), fw_one (by omega)⟩
  have o0 : PureF Tryd.prog 40 [.val (.int .i64 0)] (rsv 0) := qInt_ok 0 (by omega) (by omega)
  have o1 : PureF Tryd.prog 40 [.val (.int .i64 1)] (rsv 1) := qInt_ok 1 (by omega) (by omega)
  have sh := qSimplest_ok (0 + thd) (1 - thd) (qw_mono (qw_add w0 w3) (by omega)) (qw_mono (qw_sub w1 w3) (by omega))
  rw [smp_half] at sh
  have ok {k : Nat} {z : Rat} (h : qw k z) (hk : k ≤ 10000000000) : qok z := qok_of h hk
  refine CodeJ.cutAt 13 (BI11 x y) ?_ ?_
  · simp
    refine callS o0 (by simp) ?_
    simp
    refine callS third_ok (by simp) ?_
    simp
    refine callS (qAdd_ok 0 thd (ok w0 (by omega)) (ok w3 (by omega))) (by simp) ?_
    simp
    refine callS o1 (by simp) ?_
    simp
    refine callS third_ok (by simp) ?_
    simp
    refine callS (qSub_ok 1 thd (ok w1 (by omega)) (ok w3 (by omega))) (by simp) ?_
    simp
    refine callS sh (by simp) ?_
    simp
    refine callS (qText_ok (1 / 2) (ok (k := 1) ⟨wid_le (by omega) (by decide +kernel), wid_le (by omega) (by decide +kernel)⟩ (by omega))) (by simp) ?_
    simp [qtxt_half]
    by_cases k1 : c = 0
    · subst k1
      by_cases k2 : c' = 0
      · subst k2
        refine callS q1 (by simp [errSV]) ?_
        simp [errSV]
        refine callS q2 (by simp [errSV]) ?_
        simp [errSV]
        intro _ _
        refine callS (qSimplest_ok x y (qw_mono fx (by omega)) (qw_mono fy (by omega))) (by simp) ?_
        simp
        refine callS (qCmp_ok x y (ok fx (by omega)) (ok fy (by omega))) (by simp) ?_
        have hz := qw_smp fx fy (by omega)
        by_cases hyx : y < x
        · have hxy : ¬ x < y := fun h => by grind
          have hb : smp x y = (0, false) := by unfold smp; rw [if_pos hyx]
          simp [hyx, hxy, hb]
        · have hl := smp_least hyx
          have hn := fun d (h1 : 1 ≤ d) (h2 : d < ((smp x y).1.den : Int)) => smp_none (d := d) hyx h1 h2
          obtain ⟨e1, e2, e3, -⟩ := hl
          rw [e1]
          generalize (smp x y).1 = z at *
          have hzx : ¬ z < x := fun h => by grind
          have hzy : ¬ y < z := fun h => by grind
          have hc : ¬ 0 < (if x < y then (-1 : Int) else if y < x then 1 else 0) := by split <;> omega
          have hc1 : ¬ (if z < x then (-1 : Int) else if x < z then 1 else 0) < 0 := by rw [if_neg hzx]; split <;> omega
          have hc2 : ¬ 0 < (if z < y then (-1 : Int) else if y < z then 1 else 0) := by split <;> omega
          simp [hc]
          refine callS (qCmp_ok z x (ok hz (by omega)) (ok fx (by omega))) (by simp) ?_
          simp [hc1]
          refine callS (qCmp_ok z y (ok hz (by omega)) (ok fy (by omega))) (by simp) ?_
          simp [hc2]
          refine callS (qDen_ok z (ok hz (by omega))) (by simp) ?_
          simp
          refine callS (int64_ok _) (by simp) ?_
          have hd := z.den_nz
          have mk : ∀ N : Nat, N ≤ 60 → N ≤ z.den → BI11 x y ⟨123, [(7, .ptr 1 0 0), (9, .ptr 2 0 0), (15, .val (.int .i64 N))], [some ⟨4, [rsv (1 / 2)], false⟩, some ⟨4, [rsv x], false⟩, some ⟨4, [rsv y], false⟩, some ⟨4, [rsv z], false⟩, some ⟨2, [zsv z.den], false⟩]⟩ :=
            fun N h1 h2 => ⟨z, N, h1, fun d hd1 hd2 => hn d hd1 (by omega), rfl⟩
          by_cases f : fits64 z.den
          · by_cases g : 60 < (z.den : Int)
            · simp [f, g]
              exact ⟨_, mk 60 (by omega) (by omega), by simp [leS, hC]⟩
            · simp [f, g]
              exact ⟨_, mk z.den (by omega) (by omega), by simp [leS, hC]⟩
          · have g : 60 < z.den := by unfold fits64 at f; omega
            simp [f]
            exact ⟨_, mk 60 (by omega) (by omega), by simp [leS, hC]⟩
      · refine callS q1 (by simp [errSV]) ?_
        simp [errSV]
        refine callS q2 (by simp [errSV, k2]) ?_
        simp [errSV, k2]
    · refine callS q1 (by simp [errSV, k1]) ?_
      simp [errSV, k1]
      by_cases k2 : c' = 0
      · refine callS q2 (by simp [errSV, k2]) ?_
        simp [errSV, k2]
      · refine callS q2 (by simp [errSV, k2]) ?_
        simp [errSV, k2]
  · rintro st ⟨z, N, hN, hn, rfl⟩
    simp only [dropC_succ, dropC_zero]
    refine CodeJ.go ?_
    simp
    refine CodeJ.loop (ι := Nat) (fun d => ⟨123, [(7, .ptr 1 0 0), (9, .ptr 2 0 0), (15, .val (.int .i64 N)), (17, .val (.int .i64 d))], [some ⟨4, [rsv (1 / 2)], false⟩, some ⟨4, [rsv x], false⟩, some ⟨4, [rsv y], false⟩, some ⟨4, [rsv z], false⟩, some ⟨2, [zsv z.den], false⟩]⟩)
      (fun d => 1 ≤ d) (fun d => N - d) 1 ?_ ?_ ?_
    · exact Nat.le_refl _
    · simp [leS, hC]
    · rintro d hd
      by_cases hdN : d < N
      · have fd : fw 2 ((d : Nat) : Int) := fw_n64 (by omega) (by omega)
        have wl : qw 2202 (x * ((d : Int) : Rat)) := qw_mul fx (qw_int fd (by omega)) (by omega)
        have wh : qw 2202 (y * ((d : Int) : Rat)) := qw_mul fy (qw_int fd (by omega)) (by omega)
        have wd : qok ((d : Int) : Rat) := ok (qw_int fd (by omega)) (by omega)
        have hc := hn d (by omega) (by omega)
        have ml := qMul_ok x ((d : Int) : Rat) (ok fx (by omega)) wd
        have mh := qMul_ok y ((d : Int) : Rat) (ok fy (by omega)) wd
        have mi := qInt_ok (d : Int) (by omega) (by omega)
        generalize x * ((d : Int) : Rat) = l at *
        generalize y * ((d : Int) : Rat) = h at *
        generalize ((d : Int) : Rat) = dr at *
        simp [hdN]
        refine callS mi (by simp) ?_
        simp
        refine callS ml (by simp) ?_
        simp
        refine callS mh (by simp) ?_
        simp
        refine callS (qCeil_ok l (ok wl (by omega))) (by simp) ?_
        simp
        refine callS (qFloor_ok h (ok wh (by omega))) (by simp) ?_
        simp
        have hcf : ¬ (if l.ceil < h.floor then (-1 : Int) else if h.floor < l.ceil then 1 else 0) ≤ 0 := by rw [if_neg (by omega), if_pos hc]; omega
        refine callS (cmp_ok _ _ (Nat.le_trans (fw_ceil wl) (by omega)) (Nat.le_trans (fw_floor wh) (by omega))) (by simp) ?_
        simp (disch := omega) [hcf, w64]
        exact ⟨d + 1, by omega, by omega, by simp [leS, hC]⟩
      · simp [hdN]
