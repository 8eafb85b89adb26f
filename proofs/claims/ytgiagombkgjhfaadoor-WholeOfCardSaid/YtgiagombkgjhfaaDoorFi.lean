/- What functions of the given program return (left_here), for arguments within the bounds that each theorem names. A text of the prover's own. -/
import Derived.Test.YtgiagombkgjhfaaDoorFh
namespace Go.Proofs
open Go.Sv Go Go.Pl
set_option maxRecDepth 10000 in
theorem left_here {C : Ctx} {M : Tab} {K : Tab → List Nat → SV → Prop} (m : List Nat) (b s : Nat) {s' : Int} (hs' : s' = s) (hm : ∀ d ∈ m, d < 4294967296) (hb : b < 32) (hl : m.length ≤ s) (hs : s ≤ 4398046511104) (hv : val 4294967296 m * 2 ^ b < 4294967296 ^ s)
    (hK : ∀ o, o.length = s → (∀ d ∈ o, d < 4294967296) → val 4294967296 o = val 4294967296 m * 2 ^ b → K (M ++ [some ⟨1, o.map u32, false⟩]) [] (.view M.length 0 s)) :
    CallJ Tryd.prog C 108 [.ro (m.map u32), .val (.int .u64 b), .val (.int .i64 s')] M none K := by
  subst hs'
  refine call_here Tryd.func108 rfl (by simp) [] (by simp) (by simp) (fun C' hC => ?_)
  simp (disch := omega) [w64]
  refine ⟨by omega, ?_⟩
  refine CodeJ.loop (ι := List Nat × Nat) (fun ⟨o, i⟩ => ⟨44, [(0, .ro (m.map u32)), (1, .val (.int .u64 b)), (7, .view M.length 0 s), (13, .ro (m.map u32)), (14, .val (.int .i64 m.length)), (15, .val (.int .i64 i))], M ++ [some ⟨1, o.map u32, false⟩]⟩)
    (fun ⟨o, i⟩ => o.length = s ∧ i ≤ m.length ∧ (∀ d ∈ o, d < 4294967296) ∧ val 4294967296 (o.take (i + 1)) = val 4294967296 (m.take i) * 2 ^ b ∧ dg o i < 2 ^ b ∧ ∀ j, i < j → dg o j = 0)
    (fun ⟨o, i⟩ => m.length - i) (List.replicate s 0, 0) ?_ ?_ ?_
  · refine ⟨by simp, by omega, by simp, by simp [val_rep]; simp [val], ?_, fun j _ => dg_rep _ _⟩
    rw [dg_rep]; exact Nat.two_pow_pos b
  · simp [leS, hC]
  · rintro ⟨o, i⟩ ⟨h1, h2, h3, h4, h5, h6⟩
    by_cases hlt : i < m.length
    · have bm := dg_lt hm (by omega) i
      have bo := dg_lt h3 (by omega) i
      have hp : (2 : Nat) ^ b ≤ 2147483648 := Nat.pow_le_pow_right (by omega) (show b ≤ 31 by omega)
      obtain ⟨z, hz⟩ : ∃ z, z = dg m i % 2 ^ (32 - b) := ⟨_, rfl⟩
      obtain ⟨w, hw⟩ : ∃ w, w = 2 ^ b * dg m i := ⟨_, rfl⟩
      have hB : 4294967296 = 2 ^ b * 2 ^ (32 - b) := by rw [← Nat.pow_add, show b + (32 - b) = 32 by omega]
      have hwz : w % 4294967296 = 2 ^ b * z := by
        rw [hw, hz]; conv => lhs; rhs; rw [hB]
        exact Nat.mul_mod_mul_left _ _ _
      have hzlt : z + 1 ≤ 2 ^ (32 - b) := by rw [hz]; exact Nat.mod_lt _ (Nat.two_pow_pos _)
      have hlow : dg o i + 2 ^ b * z < 4294967296 := by
        have := Nat.mul_le_mul_left (2 ^ b) hzlt
        rw [← hB, Nat.mul_add, Nat.mul_one] at this
        omega
      have hhi : w / 4294967296 < 2 ^ b := by
        rw [Nat.div_lt_iff_lt_mul (by omega), hw]
        exact Nat.mul_lt_mul_of_pos_left bm (Nat.two_pow_pos b)
      have hw64 : w < 18446744073709551616 := by
        have : w ≤ 2147483648 * 4294967295 := by rw [hw]; exact Nat.mul_le_mul hp (by omega)
        omega
      have e1 : IntKind.u64.wrap ((dg m i : Int) * 2 ^ b) = w := by
        have : (dg m i : Int) * 2 ^ b = w := by rw [hw]; push_cast; exact Int.mul_comm _ _
        rw [this, wu64]; omega
      have e2 : bwop .or .u32 (dg o i : Int) ((w : Int) % 4294967296) = ((dg o i + 2 ^ b * z : Nat) : Int) := bwop_or32 _ _ _ _ b rfl (by rw [← hwz]; rfl) h5 hlow
      -- what a step brings
      have hval : val 4294967296 ((o.set i (dg o i + 2 ^ b * z)).take (i + 1)) + 4294967296 ^ (i + 1) * (w / 4294967296) = val 4294967296 (m.take (i + 1)) * 2 ^ b := by
        rw [take_set_succ _ (by omega), val_app, List.length_take, Nat.min_eq_left (by omega), val_take _ m _ h2]
        rw [val_take _ o i (by omega)] at h4
        have := Nat.mod_add_div w 4294967296
        rw [hwz] at this
        simp only [val, Nat.mul_zero, Nat.add_zero, Nat.pow_succ]
        grind
      have e3 : (w : Int) / 4294967296 = ((w / 4294967296 : Nat) : Int) := by simp
      generalize w / 4294967296 = h at *
      generalize dg o i + 2 ^ b * z = y at *
      have e4 : (h : Int) % 4294967296 = h := by omega
      have F := lt_set i h3 hlow
      by_cases hh : 0 < h
      · have hs1 : i + 1 < s := by
          rcases Nat.lt_or_ge (i + 1) s with h | h
          · exact h
          · exfalso
            have : s = i + 1 := by omega
            subst this
            have h7 : val 4294967296 (m.take (i + 1)) = val 4294967296 m := by rw [List.take_of_length_le (by omega)]
            rw [h7] at hval
            have := Nat.mul_le_mul_left (4294967296 ^ (i + 1)) hh
            omega
        have hl1 : i + 1 < (o.set i y).length := by simp; omega
        simp (disch := omega) [w64, lget_u32, hlt, wu64, u32w, e1, e2, e3, e4, lset_u32, -List.map_set, hh]
        refine ⟨by omega, by omega, by omega, by omega, by omega, by omega, (o.set i y).set (i + 1) h, i + 1, ⟨by simpa using h1, by omega, lt_set _ F (by omega), ?_, ?_, ?_⟩, by omega, ?_⟩
        · rw [take_set_succ _ hl1, val_app, List.length_take, Nat.min_eq_left (Nat.le_of_lt hl1)]
          simpa [val] using hval
        · rw [dg_set _ hl1, if_pos rfl]; exact hhi
        · intro j hj
          rw [dg_set _ hl1, if_neg (by omega), dg_set _ (by omega), if_neg (by omega)]
          exact h6 j (by omega)
        · simp [leS, hC]
      · obtain rfl : h = 0 := by omega
        simp (disch := omega) [w64, lget_u32, hlt, wu64, u32w, e1, e2, e3, e4, lset_u32, -List.map_set]
        refine ⟨by omega, by omega, by omega, by omega, o.set i y, i + 1, ⟨by simpa using h1, by omega, F, ?_, ?_, ?_⟩, by omega, ?_⟩
        · rw [val_take _ _ _ (by simp; omega), dg_set _ (by omega), if_neg (by omega), h6 _ (by omega)]
          simpa using hval
        · rw [dg_set _ (by omega), if_neg (by omega), h6 _ (by omega)]; exact Nat.two_pow_pos b
        · intro j hj
          rw [dg_set _ (by omega), if_neg (by omega)]
          exact h6 j (by omega)
        · simp [leS, hC, lset_eq]
    · obtain rfl : i = m.length := by omega
      simp (disch := omega) [w64]
      have e5 : m.take m.length = m := List.take_length
      rw [e5] at h4
      have e6 : val 4294967296 (o.take (m.length + 1)) = val 4294967296 o := by
        rcases Nat.lt_or_ge m.length s with h | h
        · rw [← List.take_append_drop (m.length + 1) o, val_app]
          have : val 4294967296 (o.drop (m.length + 1)) = 0 := by
            refine val_zero _ _ fun d hd => ?_
            obtain ⟨j, hj, rfl⟩ := List.getElem_of_mem hd
            have := h6 (m.length + 1 + j) (by omega)
            simp only [List.length_drop] at hj
            unfold dg at this
            rw [getD_in (by omega)] at this
            rw [List.getElem_drop]; exact this
          rw [this]; simp
        · rw [List.take_of_length_le (by omega)]
      exact hK o h1 h3 (by omega)
end Go.Proofs
