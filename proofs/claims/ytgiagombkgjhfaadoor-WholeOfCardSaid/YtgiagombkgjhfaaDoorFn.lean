/- What functions of the given program return (small_ok, gcd_ok), for arguments within the bounds that each theorem names. A text of the prover's own. -/
import Derived.Test.YtgiagombkgjhfaaDoorFm
namespace Go.Proofs
open Go.Sv Go Go.Pl
theorem wid2 {n : Nat} (h : n < 18446744073709551616) : wid 4294967296 n ≤ 2 := wid_le (by omega) (by simpa using h)
theorem lt_of_wid2 {n : Nat} (h : wid 4294967296 n ≤ 2) : n < 18446744073709551616 := by
  have := lt_wid (B := 4294967296) (by omega) n
  have := Nat.lt_of_lt_of_le this (Nat.pow_le_pow_right (by omega) h)
  simpa using this
set_option maxRecDepth 20000 in
theorem small_ok (m n : Nat) (hm : wid 4294967296 m ≤ 2) (hn : wid 4294967296 n ≤ 2) :
    PureF Tryd.prog 88 [.ro ((dig 4294967296 m).map u32), .ro ((dig 4294967296 n).map u32)] (zsv (Nat.gcd m n : Nat)) := by
  refine pure_enter Tryd.func88 rfl (by simp) (fun C hC => ?_)
  have wm := word_ok (dig 4294967296 m) (dig_lt (by omega) m) hm
  have wn := word_ok (dig 4294967296 n) (dig_lt (by omega) n) hn
  rw [val_dig (by omega)] at wm wn
  have hm' := lt_of_wid2 hm
  have hn' := lt_of_wid2 hn
  simp
  refine callF wm (by simp) ?_
  simp
  refine callF wn (by simp) ?_
  simp
  refine CodeJ.loop (ι := Nat × Nat) (fun ⟨x, y⟩ => ⟨24, [(4, .ptr 0 0 0), (5, .val (.int .u64 x)), (6, .val (.int .u64 y))], [some ⟨2, [.agg [.val (.bool false), .val (.slice none 0 0)]], false⟩]⟩)
    (fun ⟨x, y⟩ => x < 18446744073709551616 ∧ y < 18446744073709551616 ∧ Nat.gcd x y = Nat.gcd m n) (fun ⟨x, y⟩ => y) (m, n) ?_ ?_ ?_
  · exact ⟨hm', hn', rfl⟩
  · simp [leS, hC]
  · rintro ⟨x, y⟩ ⟨h1, h2, h3⟩
    by_cases hy : 0 < y
    · simp [hy]
      refine CodeJ.draw (.qs [0, 1, 2, 3, 4, 5] <| .nil) (by kernel_rfl) (by kernel_rfl) (by simp) ?_
      simp (disch := omega) [Int.tmod_eq_emod_of_nonneg]
      refine ⟨by omega, y, x % y, ⟨h2, Nat.lt_trans (Nat.mod_lt _ hy) h2, by rw [← h3, Nat.gcd_comm x y, Nat.gcd_rec y x, Nat.gcd_comm]⟩, Nat.mod_lt _ hy, by simp [leS, hC]⟩
    · obtain rfl : y = 0 := by omega
      simp at h3
      subst h3
      have hmd := made_ok false [Nat.gcd m n % 4294967296, Nat.gcd m n / 4294967296] (by simp) (by simp; omega)
      simp [val] at hmd
      generalize Nat.gcd m n = g at *
      rw [show ((g : Int) % 4294967296 + 4294967296 * ((g : Int) / 4294967296)) = g by omega] at hmd
      have e : (g : Int) / 4294967296 % 4294967296 = (g : Int) / 4294967296 := by omega
      simp (disch := omega) [u32w, e]
      refine callF hmd (by simp) ?_
      simp
theorem gcd_step (m n : Nat) : Nat.gcd n (m % n) = Nat.gcd m n := by rw [Nat.gcd_comm m n, Nat.gcd_rec n m, Nat.gcd_comm]
theorem tellsL (n : Nat) : (dig 4294967296 n).length = wid 4294967296 n := rfl
set_option maxRecDepth 20000 in
theorem gcd_ok (x y : Int) (hx : fit x) (hy : fit y) : PureF Tryd.prog 31 [zsv x, zsv y] (zsv (Int.gcd x y : Nat)) := by
  refine pure_enter Tryd.func31 rfl (by simp) (fun C hC => ?_)
  simp [zsv]
  refine CodeJ.draw (.qs [0, 1, 2, 3, 4, 5] <| .nil) (by kernel_rfl) (by kernel_rfl) (by simp) ?_
  simp
  refine CodeJ.loop (ι := Nat × Nat) (fun ⟨m, n⟩ => ⟨39, [(4, .ptr 2 0 0), (5, .ro ((dig 4294967296 m).map u32)), (6, .ro ((dig 4294967296 n).map u32))],
      [some ⟨2, [.agg [.val (.bool (decide (x < 0))), .ro ((dig 4294967296 x.natAbs).map u32)]], false⟩, some ⟨2, [.agg [.val (.bool (decide (y < 0))), .ro ((dig 4294967296 y.natAbs).map u32)]], false⟩, some ⟨2, [.agg [.val (.bool false), .val (.slice none 0 0)]], false⟩]⟩)
    (fun ⟨m, n⟩ => wid 4294967296 m ≤ 1000000000000 ∧ wid 4294967296 n ≤ 1000000000000 ∧ Nat.gcd m n = Int.gcd x y) (fun ⟨m, n⟩ => n) (x.natAbs, y.natAbs) ?_ ?_ ?_
  · exact ⟨hx, hy, rfl⟩
  · simp [leS, hC]
  · rintro ⟨m, n⟩ ⟨h1, h2, h3⟩
    by_cases hn : n = 0
    · subst hn
      simp at h3
      subst h3
      have hmd := made_dig false _ h1
      simp only [wid] at h1
      simp [dig_zero]
      refine ⟨by omega, ?_⟩
      refine callF hmd (by simp [List.take_of_length_le]) ?_
      simp [zsv]
    · have hl : 0 < (dig 4294967296 n).length := List.length_pos_iff.2 fun h => hn ((dig_eq_nil (by omega)).1 h)
      have hlong := long_ok m n hn (by omega) (by omega)
      have hr := Nat.mod_lt m (show 0 < n by omega)
      have ht := trim_ok (dig 4294967296 (m % n)) (by
        have := wid_mono (B := 4294967296) (by omega) (Nat.le_of_lt hr)
        simp only [wid] at this h2; omega)
      rw [trimL_dig (by omega)] at ht
      have go : ∀ st', leS C st' ⟨39, [(4, .ptr 2 0 0), (5, .ro ((dig 4294967296 n).map u32)), (6, .ro ((dig 4294967296 (m % n)).map u32))],
          [some ⟨2, [.agg [.val (.bool (decide (x < 0))), .ro ((dig 4294967296 x.natAbs).map u32)]], false⟩, some ⟨2, [.agg [.val (.bool (decide (y < 0))), .ro ((dig 4294967296 y.natAbs).map u32)]], false⟩, some ⟨2, [.agg [.val (.bool false), .val (.slice none 0 0)]], false⟩]⟩ → 
          ∃ m' n', (wid 4294967296 m' ≤ 1000000000000 ∧ wid 4294967296 n' ≤ 1000000000000 ∧ Nat.gcd m' n' = Int.gcd x y) ∧ n' < n ∧ leS C st' ⟨39, [(4, .ptr 2 0 0), (5, .ro ((dig 4294967296 m').map u32)), (6, .ro ((dig 4294967296 n').map u32))],
          [some ⟨2, [.agg [.val (.bool (decide (x < 0))), .ro ((dig 4294967296 x.natAbs).map u32)]], false⟩, some ⟨2, [.agg [.val (.bool (decide (y < 0))), .ro ((dig 4294967296 y.natAbs).map u32)]], false⟩, some ⟨2, [.agg [.val (.bool false), .val (.slice none 0 0)]], false⟩]⟩ :=
        fun st' hle => ⟨n, m % n, ⟨h2, Nat.le_trans (wid_mono (by omega) (Nat.le_of_lt hr)) h2, by rw [gcd_step]; exact h3⟩, hr, hle⟩
      by_cases hm2 : (dig 4294967296 m).length ≤ 2
      · by_cases hn2 : (dig 4294967296 n).length ≤ 2
        · have hs := small_ok m n hm2 hn2
          have hm2' : ((dig 4294967296 m).length : Int) ≤ 2 := by omega
          have hn2' : ((dig 4294967296 n).length : Int) ≤ 2 := by omega
          simp [hl, hm2', hn2']
          refine callF hs (by simp) ?_
          simp [zsv, h3]
        · have hm2' : ((dig 4294967296 m).length : Int) ≤ 2 := by omega
          have hn2' : ¬ ((dig 4294967296 n).length : Int) ≤ 2 := by omega
          simp [hl, hm2', hn2']
          refine callF hlong (by simp) ?_
          simp
          refine callF ht (by simp) ?_
          simp
          exact go _ (by simp [leS, hC])
      · have hm2' : ¬ ((dig 4294967296 m).length : Int) ≤ 2 := by omega
        simp [hl, hm2']
        refine callF hlong (by simp) ?_
        simp
        refine callF ht (by simp) ?_
        simp
        exact go _ (by simp [leS, hC])
end Go.Proofs
