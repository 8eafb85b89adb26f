/- What functions of the given program return (takeAway_here, giveBack_here), for arguments within the bounds that each theorem names. A text of the prover's own. -/
import Derived.Test.YtgiagombkgjhfaaDoorFi
namespace Go.Proofs
open Go.Sv Go Go.Pl
set_option maxRecDepth 10000 in
theorem takeAway_here {C : Ctx} {M : Tab} {k k2 i0 nu nv : Nat} {K : Tab → List Nat → SV → Prop} (A R : List SV) (us vs : List Nat) (g : Nat) (hk : tget M k = some ⟨1, A ++ (us.map u32 ++ R), false⟩) (hk2 : tget M k2 = some ⟨1, vs.map u32, false⟩) (hne : k2 ≠ k) (hi : i0 = A.length) (hnu : nu = us.length) (hnv : nv = vs.length)
    (hu : ∀ d ∈ us, d < 4294967296) (hv : ∀ d ∈ vs, d < 4294967296) (hg : g < 4294967296) (hl : vs.length < us.length) (hs : us.length ≤ 4398046511104)
    (hK : ∀ o b, o.length = us.length → (∀ d ∈ o, d < 4294967296) → b ≤ 1 → val 4294967296 us + 4294967296 ^ us.length * b = val 4294967296 o + g * val 4294967296 vs → K (tset M k (some ⟨1, A ++ (o.map u32 ++ R), false⟩)) [] (.val (.bool (decide (0 < b))))) :
    CallJ Tryd.prog C 109 [.view k i0 nu, .view k2 0 nv, .val (.int .u64 g)] M none K := by
  subst hi hnu hnv
  refine call_here Tryd.func109 rfl (by simp) [] (by simp) (by simp) (fun C' hC => ?_)
  simp (disch := omega) [w64]
  refine CodeJ.loop (ι := List Nat × Nat × Nat × Nat) (fun ⟨o, i, c, b⟩ => ⟨51, [(0, .view k A.length us.length), (1, .view k2 0 vs.length), (2, .val (.int .u64 g)), (7, .val (.int .u64 c)), (8, .val (.int .u64 b)), (12, .val (.int .i64 us.length)), (13, .val (.int .i64 i))], tset M k (some ⟨1, A ++ (o.map u32 ++ R), false⟩)⟩)
    (fun ⟨o, i, c, b⟩ => o.length = us.length ∧ i ≤ us.length ∧ (∀ d ∈ o, d < 4294967296) ∧ c < 4294967296 ∧ b ≤ 1 ∧ (vs.length < i → c = 0) ∧ o.drop i = us.drop i ∧
      val 4294967296 (us.take i) + 4294967296 ^ i * (c + b) = val 4294967296 (o.take i) + g * val 4294967296 (vs.take i))
    (fun ⟨o, i, c, b⟩ => us.length - i) (us, 0, 0, 0) ?_ ?_ ?_
  · exact ⟨rfl, by omega, hu, by omega, by omega, fun _ => rfl, rfl, by simp [val]⟩
  · simp [leS, hC, tset_self hk]
  · rintro ⟨o, i, c, b⟩ ⟨h1, h2, h3, h4, h5, h6, h7, h8⟩
    have hk' := tget_same (M := M) (k := k) ⟨1, A ++ (o.map u32 ++ R), false⟩ hk
    have hk2' : tget (tset M k (some ⟨1, A ++ (o.map u32 ++ R), false⟩)) k2 = some ⟨1, vs.map u32, false⟩ := by rw [tget_other _ hk hne]; exact hk2
    by_cases hlt : i < us.length
    · have bo := dg_lt h3 (by omega) i
      have bv := dg_lt hv (by omega) i
      have ho : dg o i = dg us i := dg_drop h7
      obtain ⟨t, ht⟩ : ∃ t, t = c + g * dg vs i := ⟨_, rfl⟩
      have hgv : g * dg vs i ≤ 4294967295 * 4294967295 := Nat.mul_le_mul (by omega) (by omega)
      have hgv' : (g : Int) * dg vs i ≤ 18446744065119617025 := by rw [← Int.natCast_mul]; omega
      have hgv0 : (0 : Int) ≤ (g : Int) * dg vs i := by rw [← Int.natCast_mul]; omega
      have e1 : (c : Int) + g * dg vs i = t := by rw [ht]; push_cast; rfl
      obtain ⟨c', hc'⟩ : ∃ c', c' = t / 4294967296 := ⟨_, rfl⟩
      obtain ⟨lo, hlo⟩ : ∃ lo, lo = t % 4294967296 := ⟨_, rfl⟩
      have e2 : (t : Int) % 4294967296 = lo := by omega
      have e3 : (t : Int) / 4294967296 = c' := by omega
      obtain ⟨u, b', hu', hb', e0, e4, e5⟩ : ∃ u b' : Nat, u < 4294967296 ∧ b' ≤ 1 ∧ dg o i + 4294967296 * b' = u + lo + b ∧ ((dg o i : Int) - lo - b) % 18446744073709551616 / 9223372036854775808 = b' ∧ ((dg o i : Int) - lo - b) % 4294967296 = u := by
        rcases Nat.lt_or_ge (dg o i) (lo + b) with h | h
        · exact ⟨dg o i + 4294967296 - lo - b, 1, by omega, by omega, by omega, by omega, by omega⟩
        · exact ⟨dg o i - lo - b, 0, by omega, by omega, by omega, by omega, by omega⟩
      have hc6 : vs.length < i + 1 → c' = 0 := by
        intro h
        rw [dg_out (by omega)] at ht
        rw [hc', ht]; simp; omega
      have F := lt_set i h3 hu'
      have G : val 4294967296 (us.take (i + 1)) + 4294967296 ^ (i + 1) * (c' + b') = val 4294967296 ((o.set i u).take (i + 1)) + g * val 4294967296 (vs.take (i + 1)) := by
        rw [val_take', val_take' _ vs, take_set_succ _ (by omega), val_app, List.length_take, Nat.min_eq_left (by omega), Nat.pow_succ]
        simp only [val, Nat.mul_zero, Nat.add_zero]
        exact take_step h8 (by rw [← ho]; omega)
      have D : (o.set i u).drop (i + 1) = us.drop (i + 1) := by rw [drop_set_succ]; exact drop_drop_eq h7
      have hlo2 : lo < 4294967296 := by omega
      by_cases hlv : i < vs.length
      · simp (disch := omega) [w64, wu64, hlt, hlv, hk', hk2', lget_u32, u32w, lget_mid, lset_mid, e1, bits_low, e2, e3, u64w, e4, e5, -List.map_set]
        repeat refine And.intro (by omega) ?_
        refine ⟨o.set i u, i + 1, c', b', ⟨by simpa using h1, by omega, F, by omega, hb', hc6, D, G⟩, by omega, by simp [leS, hC]⟩
      · have hv0 : dg vs i = 0 := dg_out (by omega)
        have htc : t = c := by rw [ht, hv0]; simp
        subst htc
        simp (disch := omega) [w64, wu64, hlt, hlv, hk', hk2', lget_u32, u32w, lget_mid, lset_mid, bits_low, e2, e3, u64w, e4, e5, -List.map_set]
        repeat refine And.intro (by omega) ?_
        refine ⟨o.set i u, i + 1, c', b', ⟨by simpa using h1, by omega, F, by omega, hb', hc6, D, G⟩, by omega, by simp [leS, hC]⟩
    · obtain rfl : i = us.length := by omega
      simp (disch := omega) [w64]
      have := hK o b h1 h3 h5 (by
        rw [List.take_length, List.take_of_length_le (show o.length ≤ us.length by omega), List.take_of_length_le (show vs.length ≤ us.length by omega), h6 hl] at h8
        simpa using h8)
      exact this
set_option maxRecDepth 10000 in
theorem giveBack_here {C : Ctx} {M : Tab} {k k2 i0 nu nv : Nat} {K : Tab → List Nat → SV → Prop} (A R : List SV) (us vs : List Nat) (hk : tget M k = some ⟨1, A ++ (us.map u32 ++ R), false⟩) (hk2 : tget M k2 = some ⟨1, vs.map u32, false⟩) (hne : k2 ≠ k) (hi : i0 = A.length) (hnu : nu = us.length) (hnv : nv = vs.length)
    (hu : ∀ d ∈ us, d < 4294967296) (hv : ∀ d ∈ vs, d < 4294967296) (hl : vs.length < us.length) (hs : us.length ≤ 4398046511104)
    (hK : ∀ o c, o.length = us.length → (∀ d ∈ o, d < 4294967296) → val 4294967296 us + val 4294967296 vs = val 4294967296 o + 4294967296 ^ us.length * c → K (tset M k (some ⟨1, A ++ (o.map u32 ++ R), false⟩)) [] (.tup [])) :
    CallJ Tryd.prog C 110 [.view k i0 nu, .view k2 0 nv] M none K := by
  subst hi hnu hnv
  refine call_here Tryd.func110 rfl (by simp) [] (by simp) (by simp) (fun C' hC => ?_)
  simp (disch := omega) [w64]
  refine CodeJ.loop (ι := List Nat × Nat × Nat) (fun ⟨o, i, c⟩ => ⟨38, [(0, .view k A.length us.length), (1, .view k2 0 vs.length), (4, .val (.int .u64 c)), (8, .val (.int .i64 us.length)), (9, .val (.int .i64 i))], tset M k (some ⟨1, A ++ (o.map u32 ++ R), false⟩)⟩)
    (fun ⟨o, i, c⟩ => o.length = us.length ∧ i ≤ us.length ∧ (∀ d ∈ o, d < 4294967296) ∧ c ≤ 1 ∧ o.drop i = us.drop i ∧
      val 4294967296 (us.take i) + val 4294967296 (vs.take i) = val 4294967296 (o.take i) + 4294967296 ^ i * c)
    (fun ⟨o, i, c⟩ => us.length - i) (us, 0, 0) ?_ ?_ ?_
  · exact ⟨rfl, by omega, hu, by omega, rfl, by simp [val]⟩
  · simp [leS, hC, tset_self hk]
  · rintro ⟨o, i, c⟩ ⟨h1, h2, h3, h4, h7, h8⟩
    have hk' := tget_same (M := M) (k := k) ⟨1, A ++ (o.map u32 ++ R), false⟩ hk
    have hk2' : tget (tset M k (some ⟨1, A ++ (o.map u32 ++ R), false⟩)) k2 = some ⟨1, vs.map u32, false⟩ := by rw [tget_other _ hk hne]; exact hk2
    by_cases hlt : i < us.length
    · have bo := dg_lt h3 (by omega) i
      have bv := dg_lt hv (by omega) i
      have ho : dg o i = dg us i := dg_drop h7
      obtain ⟨t, ht⟩ : ∃ t, t = dg o i + c + dg vs i := ⟨_, rfl⟩
      have e1 : (dg o i : Int) + c + dg vs i = t := by rw [ht]; push_cast; rfl
      obtain ⟨c', hc'⟩ : ∃ c', c' = t / 4294967296 := ⟨_, rfl⟩
      obtain ⟨lo, hlo⟩ : ∃ lo, lo = t % 4294967296 := ⟨_, rfl⟩
      have e2 : (t : Int) % 4294967296 = lo := by omega
      have e3 : (t : Int) / 4294967296 = c' := by omega
      have hlo2 : lo < 4294967296 := by omega
      have F := lt_set i h3 hlo2
      have G : val 4294967296 (us.take (i + 1)) + val 4294967296 (vs.take (i + 1)) = val 4294967296 ((o.set i lo).take (i + 1)) + 4294967296 ^ (i + 1) * c' := by
        rw [val_take', val_take' _ vs, take_set_succ _ (by omega), val_app, List.length_take, Nat.min_eq_left (by omega), Nat.pow_succ]
        simp only [val, Nat.mul_zero, Nat.add_zero]
        have e : dg us i + c + dg vs i = lo + 4294967296 * c' := by omega
        generalize 4294967296 ^ i = P at *
        grind
      have D : (o.set i lo).drop (i + 1) = us.drop (i + 1) := by rw [drop_set_succ]; exact drop_drop_eq h7
      by_cases hlv : i < vs.length
      · simp (disch := omega) [w64, wu64, hlt, hlv, hk', hk2', lget_u32, u32w, lget_mid, lset_mid, e1, e2, e3, -List.map_set]
        repeat refine And.intro (by omega) ?_
        refine ⟨o.set i lo, i + 1, c', ⟨by simpa using h1, by omega, F, by omega, D, G⟩, by omega, by simp [leS, hC]⟩
      · have hv0 : dg vs i = 0 := dg_out (by omega)
        rw [hv0] at e1
        simp at e1
        simp (disch := omega) [w64, wu64, hlt, hlv, hk', hk2', lget_u32, u32w, lget_mid, lset_mid, e1, e2, e3, -List.map_set]
        repeat refine And.intro (by omega) ?_
        refine ⟨o.set i lo, i + 1, c', ⟨by simpa using h1, by omega, F, by omega, D, G⟩, by omega, by simp [leS, hC]⟩
    · obtain rfl : i = us.length := by omega
      simp (disch := omega) [w64]
      have := hK o c h1 h3 (by
        rw [List.take_length, List.take_of_length_le (show o.length ≤ us.length by omega), List.take_of_length_le (show vs.length ≤ us.length by omega)] at h8
        simpa using h8)
      exact this
end Go.Proofs
