/- What functions of the given program return (compare_ok, cmp_ok, sign_ok, neg_ok), for arguments within the bounds that each theorem names. A text of the prover's own. -/
import Derived.Test.YtgiagombkgjhfaaDoorFa
namespace Go.Proofs
open Go.Sv Go Go.Pl
set_option maxRecDepth 10000 in
theorem compare_ok (m n : Nat) (hm : wid 4294967296 m ≤ 4398046511104) (hn : wid 4294967296 n ≤ 4398046511104) :
    PureF Tryd.prog 85 [.ro ((dig 4294967296 m).map u32), .ro ((dig 4294967296 n).map u32)] (.val (.int .i64 (cmp3 m n))) := by
  refine pure_enter Tryd.func85 rfl (by simp) (fun C hC => ?_)
  have vm := val_dig (B := 4294967296) (by omega) m
  have vn := val_dig (B := 4294967296) (by omega) n
  have lm := dig_lt (B := 4294967296) (by omega) m
  have ln := dig_lt (B := 4294967296) (by omega) n
  simp only [wid] at hm hn
  simp
  refine ⟨fun hne => ⟨fun hlt => ?_, fun hge => ?_⟩, fun he => ?_⟩
  · simp [cmp3, lt_of_wid (by omega) hlt]
  · have := lt_of_wid (B := 4294967296) (m := n) (n := m) (by omega) (by omega)
    simp [cmp3, this]; omega
  · refine CodeJ.loop (ι := List Nat × List Nat × List Nat) (fun ⟨la, lb, r⟩ => ⟨41, [(0, .ro ((la ++ r).map u32)), (1, .ro ((lb ++ r).map u32)), (5, .val (.int .i64 ((la.length : Int) - 1)))], []⟩)
      (fun ⟨la, lb, r⟩ => dig 4294967296 m = la ++ r ∧ dig 4294967296 n = lb ++ r ∧ la.length = lb.length) (fun ⟨la, lb, r⟩ => la.length) (dig 4294967296 m, dig 4294967296 n, []) ?_ ?_ ?_
    · simp; omega
    · simp (disch := omega) [leS, w64]
    · rintro ⟨la, lb, r⟩ ⟨h1, h2, h3⟩
      rcases List.eq_nil_or_concat la with rfl | ⟨la, x, rfl⟩
      · have : lb = [] := by cases lb <;> simp_all
        subst this
        simp
        have : m = n := by rw [← vm, ← vn, h1, h2]
        simp [cmp3, this]
      · rcases List.eq_nil_or_concat lb with rfl | ⟨lb, y, rfl⟩
        · simp at h3
        simp at h1 h2 h3
        simp [h3]
        have hl : lb.length < 4398046511104 := by rw [h2] at hn; simp at hn; omega
        refine CodeJ.draw (.qs [0, 1, 2, 3, 4, 5, 6, 7, 8] .nil) (by kernel_rfl) (by kernel_rfl) (by simp) ?_
        have c1 : x < y → m < n := fun h => by rw [← vm, ← vn, h1, h2]; exact cmp_top (fun d hd => lm d (by rw [h1]; simp [hd])) h3 h
        have c2 : y < x → n < m := fun h => by rw [← vm, ← vn, h1, h2]; exact cmp_top (fun d hd => ln d (by rw [h2]; simp [hd])) h3.symm h
        simp (disch := omega) [lget_at, w64]
        refine ⟨by omega, by omega, fun hne => ?_, fun he => ?_⟩
        · refine CodeJ.draw (.qs [0, 1, 2, 3, 4, 5, 6, 7, 8] .nil) (by kernel_rfl) (by kernel_rfl) (by simp) ?_
          simp (disch := omega) [lget_at, w64]
          refine ⟨by omega, by omega, fun hlt => ?_, fun hge => ?_⟩
          · simp [cmp3, c1 hlt]
          · have := c2 (by omega)
            simp [cmp3, this]; omega
        · refine ⟨la, lb, y :: r, ?_⟩
          have he : x = y := by omega
          simp [h1, h2, h3, he, leS, hC]

set_option maxRecDepth 10000 in
theorem cmp_ok (x y : Int) (hm : wid 4294967296 x.natAbs ≤ 4398046511104) (hn : wid 4294967296 y.natAbs ≤ 4398046511104) :
    PureF Tryd.prog 26 [zsv x, zsv y] (.val (.int .i64 (if x < y then -1 else if y < x then 1 else 0))) := by
  refine pure_enter Tryd.func26 rfl (by simp) (fun C hC => ?_)
  have hc := compare_ok _ _ hm hn
  by_cases hx : x < 0 <;> by_cases hy : y < 0 <;> simp [zsv, hx, hy]
  · refine callF hc (by simp) ?_
    rcases Int.lt_trichotomy x y with h | h | h
    · have e : cmp3 x.natAbs y.natAbs = 1 := by rw [cmp3, if_neg (by omega), if_pos (by omega)]
      simp [e, h, w64]
    · subst h; simp [cmp3, w64]
    · have e : cmp3 x.natAbs y.natAbs = -1 := by rw [cmp3, if_pos (by omega)]
      have : ¬ x < y := by omega
      simp [e, h, this, w64]
  · omega
  · omega
  · refine callF hc (by simp) ?_
    rcases Int.lt_trichotomy x y with h | h | h
    · have e : cmp3 x.natAbs y.natAbs = -1 := by rw [cmp3, if_pos (by omega)]
      simp [e, h]
    · subst h; simp [cmp3]
    · have e : cmp3 x.natAbs y.natAbs = 1 := by rw [cmp3, if_neg (by omega), if_pos (by omega)]
      have : ¬ x < y := by omega
      simp [e, h, this]
set_option maxRecDepth 10000 in
theorem sign_ok (x : Int) : PureF Tryd.prog 29 [zsv x] (.val (.int .i64 x.sign)) := by
  refine pure_enter Tryd.func29 rfl (by simp) (fun C hC => ?_)
  simp [zsv, dig_eq_nil]
  refine ⟨fun h => by simp [h], fun _ => ⟨fun h => (Int.sign_eq_neg_one_of_neg h).symm, fun h => (Int.sign_eq_one_of_pos (by omega)).symm⟩⟩
theorem dig_pos_len (x : Int) : 0 < (dig 4294967296 x.natAbs).length ↔ x ≠ 0 := by
  rw [List.length_pos_iff, ne_eq, dig_eq_nil (by omega)]; omega
set_option maxRecDepth 10000 in
theorem neg_ok (x : Int) : PureF Tryd.prog 30 [zsv x] (zsv (-x)) := by
  refine pure_enter Tryd.func30 rfl (by simp) (fun C hC => ?_)
  simp [zsv, dig_pos_len]
  refine ⟨fun h => ?_, fun h => by omega⟩
  by_cases h0 : x = 0
  · simp [h0]
  · have : 0 < x := by omega
    simp [h0, this]
end Go.Proofs
