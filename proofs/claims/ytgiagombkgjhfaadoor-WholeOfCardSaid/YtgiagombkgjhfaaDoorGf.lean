/- What the document's functions DivMod, Gcd and Fits return. A text of the prover's own. -/
import Derived.Test.YtgiagombkgjhfaaDoorGe
namespace Go.Proofs
open Go.Sv Go Go.Pl
theorem rfit_le {x y : Int} (h : y.natAbs ≤ x.natAbs) (hx : rfit x) : rfit y := Nat.le_trans (wid_mono (by omega) h) hx
theorem rfit_small {x : Int} (h : x.natAbs < 10000 ^ 7) : rfit x := Nat.le_trans (wid_le (by omega) h) (by omega)
/-- made, of digits -/
theorem rMade_dig (b : Bool) (n : Nat) (h : wid 10000 n ≤ 1000000000000) : PureF Tryd.prog 81 [.val (.bool b), .ro ((dig 10000 n).map i64)] (nsv (if b = true then -(n : Int) else (n : Int))) := by
  have := rMade_ok b (dig 10000 n) (by simp only [wid] at h; omega) (dig_lt (by omega) n)
  rwa [val_dig (by omega)] at this
set_option maxRecDepth 20000 in
theorem rDivMod_ok (x y : Int) (hx : rfit x) (hy : rfit y) :
    PureF Tryd.prog 39 [nsv x, nsv y] (.tup [nsv (x / y), nsv (if y = 0 then 0 else x % y), .val (.bool (decide (y ≠ 0)))]) := by
  refine pure_enter Tryd.func39 rfl (by simp) (fun C hC => ?_)
  by_cases h0 : y = 0
  · subst h0
    simp [nsv, dig_zero]
  · have hy0 : y.natAbs ≠ 0 := by omega
    have hne : ¬ (dig 10000 y.natAbs) = [] := fun h => hy0 ((dig_eq_nil (by omega)).1 h)
    have hq1 : x.natAbs / y.natAbs ≤ x.natAbs := Nat.div_le_self _ _
    have hr1 : x.natAbs % y.natAbs ≤ x.natAbs := Nat.mod_le _ _
    have hr2 := Nat.mod_lt x.natAbs (show 0 < y.natAbs by omega)
    have hdm := Nat.div_add_mod x.natAbs y.natAbs
    have hl := rShare_ok x.natAbs y.natAbs hy0 hx hy
    generalize x.natAbs / y.natAbs = Q at *
    generalize x.natAbs % y.natAbs = R at *
    have hm1 := rMade_dig (decide (x < 0) != decide (y < 0)) Q (Nat.le_trans (wid_mono (by omega) hq1) hx)
    have hm2 := rMade_dig (decide (x < 0)) R (Nat.le_trans (wid_mono (by omega) hr1) hx)
    obtain ⟨q, hq⟩ : ∃ q, q = (if (decide (x < 0) != decide (y < 0)) = true then -(Q : Int) else (Q : Int)) := ⟨_, rfl⟩
    obtain ⟨r, hr⟩ : ∃ r, r = (if decide (x < 0) = true then -(R : Int) else (R : Int)) := ⟨_, rfl⟩
    rw [← hq] at hm1
    rw [← hr] at hm2
    have hxq : x = r + y * q := by
      have hdm' : (y.natAbs : Int) * Q + R = x.natAbs := by rw [← Int.natCast_mul, ← Int.natCast_add, hdm]
      by_cases h1 : x < 0 <;> by_cases h2 : y < 0
      · have e1 : (x.natAbs : Int) = -x := by omega
        have e2 : (y.natAbs : Int) = -y := by omega
        rw [e1, e2] at hdm'; simp [h1, h2] at hq hr; subst hq hr; grind
      · have e1 : (x.natAbs : Int) = -x := by omega
        have e2 : (y.natAbs : Int) = y := by omega
        rw [e1, e2] at hdm'; simp [h1, h2] at hq hr; subst hq hr; grind
      · have e1 : (x.natAbs : Int) = x := by omega
        have e2 : (y.natAbs : Int) = -y := by omega
        rw [e1, e2] at hdm'; simp [h1, h2] at hq hr; subst hq hr; grind
      · have e1 : (x.natAbs : Int) = x := by omega
        have e2 : (y.natAbs : Int) = y := by omega
        rw [e1, e2] at hdm'; simp [h1, h2] at hq hr; subst hq hr; grind
    have hra : r.natAbs = R := by rw [hr]; split <;> omega
    have hqa : q.natAbs = Q := by rw [hq]; split <;> omega
    have fq : rfit q := rfit_le (x := x) (by omega) hx
    have fr : rfit r := rfit_le (x := x) (by omega) hx
    simp [nsv, hne, h0]
    refine callF hl (by simp) ?_
    simp
    refine callF hm1 (by simp [bne]) ?_
    simp
    refine callF hm2 (by simp) ?_
    by_cases hr0 : r < 0
    · have ha := rAdd_ok r (y.natAbs : Int) fr (by simpa [rfit] using hy)
      have hyn : ¬ (y.natAbs : Int) < 0 := by omega
      simp [nsv, hr0, bne]
      refine callF ha (by simp [nsv, hr0]) ?_
      simp [nsv]
      by_cases hy1 : y < 0
      · obtain ⟨u1, u2⟩ := eucl (x := x) (y := y) (q := q + 1) (r := r + y.natAbs) h0 (by rw [hxq]; grind) (by omega) (by omega)
        have hy2 : ¬ (0 : Int) ≤ y := by omega
        simp [hy1, hy2]
        refine CodeJ.draw (.qs [0] <| .l 1 [] <| .l 2 [] <| .l 3 [4] <| .nil) (by kernel_rfl) (by kernel_rfl) (by simp) ?_
        simp
        refine callF (rSmall_ok 1 (by omega) (by omega)) (by simp) ?_
        simp [nsv]
        refine callF (rAdd_ok q 1 fq (rfit_small (by simp))) (by simp [nsv]) ?_
        simp [nsv]
        refine CodeJ.draw (.qs [0] <| .q 1 [2] <| .l 2 [2] <| .l 3 [3] <| .qs [4] <| .nil) (by kernel_rfl) (by kernel_rfl) (by simp) ?_
        simp [nsv, u1, u2, h0]; try omega
      · obtain ⟨u1, u2⟩ := eucl (x := x) (y := y) (q := q - 1) (r := r + y.natAbs) h0 (by rw [hxq]; grind) (by omega) (by omega)
        have hy2 : 0 ≤ y := by omega
        simp [hy1, hy2]
        refine CodeJ.draw (.qs [0] <| .l 1 [] <| .l 2 [] <| .l 3 [4] <| .nil) (by kernel_rfl) (by kernel_rfl) (by simp) ?_
        simp
        refine callF (rSmall_ok 1 (by omega) (by omega)) (by simp) ?_
        simp [nsv]
        refine callF (rSub_ok q 1 fq (rfit_small (by simp))) (by simp [nsv]) ?_
        simp [nsv]
        refine CodeJ.draw (.qs [0] <| .q 1 [2] <| .l 2 [2] <| .l 3 [3] <| .qs [4] <| .nil) (by kernel_rfl) (by kernel_rfl) (by simp) ?_
        simp [nsv, u1, u2, h0]; try omega
    · obtain ⟨u1, u2⟩ := eucl (x := x) (y := y) (q := q) (r := r) h0 hxq (by omega) (by omega)
      simp [nsv, hr0, bne]
      refine CodeJ.draw (.qs [0] <| .q 1 [2] <| .l 2 [2] <| .l 3 [3] <| .qs [4] <| .nil) (by kernel_rfl) (by kernel_rfl) (by simp) ?_
      simp [nsv, u1, u2, h0]; try omega
set_option maxRecDepth 20000 in
theorem rGcd_ok (x y : Int) (hx : rfit x) (hy : rfit y) : PureF Tryd.prog 36 [nsv x, nsv y] (nsv (Int.gcd x y : Nat)) := by
  refine pure_enter Tryd.func36 rfl (by simp) (fun C hC => ?_)
  have e : Int.gcd x y = Nat.gcd x.natAbs y.natAbs := rfl
  have hnn : ¬ ((Int.gcd x y : Nat) : Int) < 0 := by omega
  simp [nsv]
  refine CodeJ.loop (ι := Nat × Nat) (fun ⟨m, n⟩ => ⟨26, [(4, .ptr 2 0 0), (5, .ro ((dig 10000 m).map i64)), (6, .ro ((dig 10000 n).map i64))],
      [none, none, some ⟨2, [.agg [.val (.bool false), .val (.slice none 0 0)]], false⟩]⟩)
    (fun ⟨m, n⟩ => wid 10000 m ≤ 1000000000000 ∧ wid 10000 n ≤ 1000000000000 ∧ Nat.gcd m n = Int.gcd x y) (fun ⟨m, n⟩ => n) (x.natAbs, y.natAbs) ?_ ?_ ?_
  · exact ⟨hx, hy, e.symm⟩
  · simp [leS, hC]
  · rintro ⟨m, n⟩ ⟨h1, h2, h3⟩
    by_cases hn : n = 0
    · subst hn
      simp at h3
      simp [dig_zero, h3]
    · have hpos : 0 < (dig 10000 n).length := List.length_pos_iff.2 fun h => hn ((dig_eq_nil (by omega)).1 h)
      simp [hpos]
      refine callF (rShare_ok m n hn h1 h2) (by simp) ?_
      simp
      have hlt := Nat.mod_lt m (show 0 < n by omega)
      refine ⟨n, m % n, ⟨h2, Nat.le_trans (wid_mono (by omega) (by omega)) h2, by rw [Nat.gcd_comm n, ← Nat.gcd_rec, Nat.gcd_comm, h3]⟩, hlt, by simp [leS, hC]⟩
set_option maxRecDepth 20000 in
theorem rFits_ok (x : Int) (hx : rfit x) : PureF Tryd.prog 21 [nsv x] (.val (.bool (decide (fits64 x)))) := by
  refine pure_enter Tryd.func21 rfl (by simp) (fun C hC => ?_)
  have w : ∀ z : Int, z.natAbs ≤ 9223372036854775808 → wid 10000 z.natAbs ≤ 4398046511104 := fun z hz => Nat.le_trans (wid_le (k := 5) (by omega) (by omega)) (by omega)
  have hx' : wid 10000 x.natAbs ≤ 4398046511104 := Nat.le_trans hx (by omega)
  simp
  refine callF (rOf_ok (-9223372036854775808) (by omega) (by omega)) (by simp) ?_
  simp
  refine callF (rOf_ok 9223372036854775807 (by omega) (by omega)) (by simp) ?_
  simp
  refine callF (rCmp_ok x (-9223372036854775808) hx' (w _ (by omega))) (by simp) ?_
  simp
  refine callF (rCmp_ok x 9223372036854775807 hx' (w _ (by omega))) (by simp) ?_
  obtain ⟨a, ha⟩ : ∃ a : Int, a = if x < -9223372036854775808 then -1 else if -9223372036854775808 < x then 1 else 0 := ⟨_, rfl⟩
  obtain ⟨b, hb⟩ : ∃ b : Int, b = if x < 9223372036854775807 then -1 else if 9223372036854775807 < x then 1 else 0 := ⟨_, rfl⟩
  rw [← ha, ← hb]
  have ea : 0 ≤ a ↔ -9223372036854775808 ≤ x := by rw [ha]; split <;> (try split) <;> omega
  have eb : b ≤ 0 ↔ x ≤ 9223372036854775807 := by rw [hb]; split <;> (try split) <;> omega
  rw [show decide (fits64 x) = (decide (0 ≤ a) && decide (b ≤ 0)) by rw [← Bool.decide_and]; congr 1; simp [fits64, ea, eb]]
  by_cases h1 : 0 ≤ a <;> by_cases h2 : b ≤ 0 <;> simp [h1, h2]
end Go.Proofs
