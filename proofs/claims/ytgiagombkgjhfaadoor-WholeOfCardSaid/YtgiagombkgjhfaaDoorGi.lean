/- What the document's function Read returns. A text of the prover's own. -/
import Derived.Test.YtgiagombkgjhfaaDoorGh
namespace Go.Proofs
open Go.Sv Go Go.Pl
theorem sget_sub (s : ByteArray) (a i : Nat) (h : a + i < s.size) : sget (s.extract a s.size) i = sget s (a + i) := by
  unfold sget
  have hs : s.data.size = s.size := rfl
  rw [ByteArray.data_extract, Array.getD_eq_getD_getElem?, Array.getD_eq_getD_getElem?, Array.getElem?_extract]
  rw [if_pos (by omega)]
theorem size_sub (s : ByteArray) (a : Nat) : (s.extract a s.size).size = s.size - a := by simp
theorem nv_sub (s : ByteArray) (a : Nat) : ∀ k, a + k ≤ s.size → nv (s.extract a s.size) 0 k = nv s a k
  | 0, _ => rfl
  | k + 1, h => by
    simp only [nv, Nat.zero_add, byt]
    rw [nv_sub s a k (by omega), sget_sub s a k (by omega)]
theorem dig_sub {s : ByteArray} {a i : Nat} (h : digAt s (a + i)) : digAt (s.extract a s.size) i := by
  refine ⟨by rw [size_sub]; have := h.1; omega, ?_⟩
  unfold byt; rw [sget_sub s a i h.1]; exact h.2
/-- the document's fault, of what a text says -/
def fsvR (r : Int × Nat × Nat) : SV := fsv r.2.1 (if r.2.1 = 0 then -1 else (r.2.2 : Int))
set_option maxRecDepth 20000 in
theorem rRead_ok (s : ByteArray) (hs : s.size ≤ 4611686018427387904) : PureF Tryd.prog 19 [.val (.string s)] (.tup [nsv (rd s).1, fsvR (rd s)]) := by
  refine pure_enter Tryd.func19 rfl (by simp) (fun C hC => ?_)
  have pre : (0 < s.size ∧ sget s 0 = 45 ∧ minus s ∧ sgnAt s = 1) ∨ (0 < s.size ∧ ¬ ((sget s 0).toNat : Int) = 45 ∧ ¬ minus s ∧ sgnAt s = 0) ∨ (¬ 0 < s.size ∧ True ∧ ¬ minus s ∧ sgnAt s = 0) := by
    by_cases h1 : 0 < s.size
    · by_cases h2 : sget s 0 = 45
      · have hm : minus s := ⟨h1, by simp [byt, h2]⟩
        exact .inl ⟨h1, h2, hm, by simp [sgnAt, hm]⟩
      · have hm : ¬ minus s := fun h => h2 (UInt8.toNat_inj.1 h.2)
        exact .inr (.inl ⟨h1, fun h => h2 (UInt8.toNat_inj.1 (Int.ofNat.inj h)), hm, by simp [sgnAt, hm]⟩)
    · have hm : ¬ minus s := fun h => h1 h.1
      exact .inr (.inr ⟨h1, trivial, hm, by simp [sgnAt, hm]⟩)
  have hd := rDigits_ok s (sgnAt s) (sgnAt_le s) hs
  have hle := sgnAt_le s
  have hde := dend_le (sgnAt_le s)
  have hdg := dend_ge s (sgnAt s)
  rcases pre with ⟨h1, h2, hm, ha⟩ | ⟨h1, h2, hm, ha⟩ | ⟨h1, h2, hm, ha⟩
  all_goals
    rw [ha] at hd hle hde hdg
    simp [h1, h2]
    refine callF hd (by simp) ?_
    simp
    by_cases hA : sgnAt s + 300 < dend s (sgnAt s)
    · have hf : rd s = (0, 2, sgnAt s + 300) := by unfold rd; rw [if_pos hA]
      have hg : dgs s (sgnAt s) = (sgnAt s + 300, 2, (sgnAt s : Int) + 300) := by unfold dgs; rw [if_pos hA]
      rw [ha] at hf hg
      rw [hg, hf]
      simp [fsv]
      refine CodeJ.draw (.qs [0] <| .q 1 [0] <| .l 2 [0] <| .l 3 [1] <| .nil) (by kernel_rfl) (by kernel_rfl) (by simp) ?_
      simp [fsvR, fsv, nsv, dig_zero]
    · by_cases hB : dend s (sgnAt s) = sgnAt s
      · have hf : rd s = (0, 1, sgnAt s) := by unfold rd; rw [if_neg hA, if_pos (.inl hB), hB]
        have hg : dgs s (sgnAt s) = (sgnAt s, 1, (sgnAt s : Int)) := by unfold dgs; rw [if_neg hA, if_pos hB]
        rw [ha] at hf hg
        rw [hg, hf]
        simp [fsv]
        refine CodeJ.draw (.qs [0] <| .q 1 [0] <| .l 2 [0] <| .l 3 [1] <| .nil) (by kernel_rfl) (by kernel_rfl) (by simp) ?_
        simp [fsvR, fsv, nsv, dig_zero]
      · have hg : dgs s (sgnAt s) = (dend s (sgnAt s), 0, -1) := by unfold dgs; rw [if_neg hA, if_neg hB]
        by_cases hC' : dend s (sgnAt s) < s.size
        · have hf : rd s = (0, 1, dend s (sgnAt s)) := by unfold rd; rw [if_neg hA, if_pos (.inr hC')]
          rw [ha] at hf hg hC'
          rw [hg, hf]
          simp [fsv, hC']
          simp [fsvR, fsv, nsv, dig_zero]
        · have hf : rd s = ((if minus s then -(nv s (sgnAt s) (s.size - sgnAt s) : Int) else (nv s (sgnAt s) (s.size - sgnAt s) : Int)), 0, 0) := by
            unfold rd; rw [if_neg hA, if_neg (by rintro (h | h) <;> contradiction)]
          have hfig := rFigure_ok (s.extract (sgnAt s) s.size) (by rw [size_sub]; rw [ha] at hA hC' ⊢; omega) (fun i hi => dig_sub (dend_dig (Nat.le_add_right _ _) (by rw [size_sub] at hi; omega)))
          rw [size_sub, nv_sub s _ _ (by omega)] at hfig
          have hmd := rMade_dig (decide (minus s)) (nv s (sgnAt s) (s.size - sgnAt s)) (by
            have n1 : nv s (sgnAt s) (s.size - sgnAt s) < 10 ^ (s.size - sgnAt s) := nv_lt fun i i1 i2 => dend_dig i1 (by omega)
            have n2 := wid_le (B := 10) (by omega) n1
            exact Nat.le_trans (wid_base (by omega) (by omega) _) (Nat.le_trans n2 (by omega)))
          have hB' := hB
          rw [ha] at hB'
          rw [ha] at hf hg hC' hfig hmd
          rw [hg, hf]
          simp [fsv, hC']
          try refine ⟨by omega, ?_⟩
          first
          | (exfalso; omega)
          | (refine callF hfig (by simp) ?_
             simp [nsv]
             refine callF hmd (by simp [hm]) ?_
             simp [fsvR, fsv, nsv, hm])
end Go.Proofs
