/- How long the fraction of a text is. A text of the prover's own. -/
import Derived.Test.YtnimjdcaajmfcaaGreatDoorPQn
namespace Go.Proofs
open Go.Sv Go Go.Pl
theorem fw_sgnd {k : Nat} {s : ByteArray} {n : Nat} (h : fw k (n : Nat)) : fw k (sgnd s n) := by
  unfold sgnd; split
  · exact fw_neg h
  · exact h
theorem qw_zero {k : Nat} (h : 1 ≤ k) : qw k 0 := ⟨fw_zero k, fw_one h⟩
theorem fw_nvd {s : ByteArray} {a m : Nat} (ha : a ≤ s.size) (h : ¬ a + m < dend s a) (hm : m ≤ 400) : fw 400 (nv s a (dend s a - a) : Nat) := by
  have := dend_ge s a
  exact fw_nv (fun i h1 h2 => dend_dig h1 (by omega)) (by omega)
theorem qw_qtail {s : ByteArray} {N p e : Nat} (hN : fw 2000 (N : Nat)) (hp : p ≤ 300) : qw 2200 (qtail s N p e).1 := by
  have hP : ∀ i, i ≤ 400 → fw 2200 ((10 ^ i : Nat) : Int) := fun i hi => fw_mono (fw_p10 hi) (by omega)
  unfold qtail
  split
  · split
    · exact qw_zero (by omega)
    split
    · exact qw_zero (by omega)
    split
    · exact qw_zero (by omega)
    split
    · exact qw_divInt (fw_sgnd (fw_mono hN (by omega))) (hP _ (by omega)) (by omega)
    · refine qw_divInt (fw_sgnd ?_) (hP _ (by omega)) (by omega)
      have := fw_mul hN (fw_p10 (i := nv s (expAt s e) (s.size - expAt s e)) (by omega))
      exact fw_mono (by simpa using this) (by omega)
  · split
    · exact qw_zero (by omega)
    · exact qw_divInt (fw_sgnd (fw_mono hN (by omega))) (hP _ (by omega)) (by omega)
theorem qw_qrd (s : ByteArray) : qw 2200 (qrd 300 s).1 := by
  have ha := sgnAt_le s
  have hb := dend_le (s := s) (a := sgnAt s) ha
  unfold qrd
  split
  · exact qw_zero (by omega)
  rename_i h1
  split
  · exact qw_zero (by omega)
  have hT := fw_nvd ha h1 (by omega)
  split
  · rename_i g
    split
    · exact qw_zero (by omega)
    rename_i h2
    split
    · exact qw_zero (by omega)
    rename_i h3
    split
    · exact qw_zero (by omega)
    have hd := fw_nvd g.1 h2 (by omega)
    have he := dend_le (s := s) (a := dend s (sgnAt s) + 1) g.1
    have : dend s (dend s (sgnAt s) + 1) = s.size := by omega
    rw [this] at hd
    exact qw_divInt (fw_sgnd (fw_mono hT (by omega))) (fw_mono hd (by omega)) (by omega)
  split
  · rename_i g
    split
    · exact qw_zero (by omega)
    rename_i h2
    split
    · exact qw_zero (by omega)
    have hd := fw_nvd g.1 h2 (by omega)
    have hl := dend_ge s (dend s (sgnAt s) + 1)
    refine qw_qtail ?_ (by omega)
    have := fw_add (fw_mono (fw_mul hT (fw_p10 (i := dend s (dend s (sgnAt s) + 1) - (dend s (sgnAt s) + 1)) (by omega))) (show 400 + 100 ≤ 1000 by omega)) (fw_mono hd (show 400 ≤ 1000 by omega))
    exact fw_mono (by simpa using this) (by omega)
  · exact qw_qtail (fw_mono hT (by omega)) (by omega)

