/- What functions of the given program return (trim_here, short_here), for arguments within the bounds that each theorem names. A text of the prover's own. -/
import Derived.Test.YtgiagombkgjhfaaDoorFg
namespace Go.Proofs
open Go.Sv Go Go.Pl
set_option maxRecDepth 10000 in
/-- trim of a list of one's own: a shorter look at it -/
theorem trim_here {C : Ctx} {M : Tab} {k : Nat} {W : Option (List Nat)} {K : Tab → List Nat → SV → Prop} (l : List Nat) (r : List SV) (hk : tget M k = some ⟨1, l.map u32 ++ r, false⟩) (hl : l.length ≤ 4398046511104)
    (hW : ∀ ks, W = some ks → ∀ i e, tget M i = some e → i ∈ ks) (hK : K M [] (.view k 0 (trimL l).length)) : CallJ Tryd.prog C 75 [.view k 0 l.length] M W K := by
  refine call_here Tryd.func75 rfl (by simp) [] (by simp) (fun ks h => ⟨rfl, hW ks h⟩) (fun C' hC => ?_)
  simp
  refine CodeJ.loop (ι := List Nat) (fun l' => ⟨21, [(0, .view k 0 l'.length)], M⟩) (fun l' => l' <+: l ∧ trimL l' = trimL l) (fun l => l.length) l ?_ ?_ ?_
  · simp
  · simp [leS]
  · rintro l' ⟨hp, ht⟩
    obtain ⟨t, rfl⟩ := hp
    rcases snoc_cases l' with rfl | ⟨zs, z, rfl⟩
    · rw [← ht] at hK
      simpa [trimL] using hK
    · simp at hl
      rw [← ht] at hK
      simp (disch := omega) [w64, hk]
      refine ⟨by omega, fun hz => ⟨by omega, zs, ⟨⟨z :: t, by simp⟩, ?_⟩, by omega, by simp [leS]⟩, fun hz => ?_⟩
      · rw [hz, trimL_zero] at ht; rw [ht, hz]; simp
      · rw [trimL_snoc _ hz] at hK; simpa using hK
set_option maxRecDepth 10000 in
/-- division by one piece, in place -/
theorem short_here {C : Ctx} {M : Tab} {k : Nat} {W : Option (List Nat)} {K : Tab → List Nat → SV → Prop} (l : List Nat) (r : List SV) (by' : Nat) (hk : tget M k = some ⟨1, l.map u32 ++ r, false⟩) (hl : l.length ≤ 4398046511104)
    (hd : ∀ d ∈ l, d < 4294967296) (hb : 0 < by' ∧ by' < 4294967296)
    (hW : ∀ ks, W = some ks → ∀ i e, tget M i = some e → i ∈ ks)
    (hK : ∀ q, (∀ d ∈ q, d < 4294967296) → q.length = l.length → val 4294967296 q = val 4294967296 l / by' → K (tset M k (some ⟨1, q.map u32 ++ r, false⟩)) [] (.tup [.view k 0 (trimL q).length, .val (.int .u32 ((val 4294967296 l % by' : Nat) : Int))])) :
    CallJ Tryd.prog C 76 [.view k 0 l.length, .val (.int .u32 by')] M W K := by
  refine call_here Tryd.func76 rfl (by simp) [] (by simp) (fun ks h => ⟨rfl, hW ks h⟩) (fun C' hC => ?_)
  simp (disch := omega) [w64]
  refine CodeJ.loop (ι := List Nat × Nat × List Nat × Nat) (fun ⟨lo, i, hi, rest⟩ => ⟨40, [(0, .view k 0 l.length), (1, .val (.int .u32 by')), (6, .val (.int .u64 rest)), (7, .val (.int .i64 ((i : Int) - 1)))], tset M k (some ⟨1, (lo ++ hi).map u32 ++ r, false⟩)⟩)
    (fun ⟨lo, i, hi, rest⟩ => lo.length = i ∧ i + hi.length = l.length ∧ (∀ d ∈ lo, d < 4294967296) ∧ (∀ d ∈ hi, d < 4294967296) ∧ rest < by' ∧ val 4294967296 l = (val 4294967296 lo + 4294967296 ^ i * rest) + by' * (4294967296 ^ i * val 4294967296 hi))
    (fun ⟨lo, i, hi, rest⟩ => i) (l, l.length, [], 0) ?_ ?_ ?_
  · simpa [val] using ⟨hd, hb.1⟩
  · simp [leS, tset_self hk]
  · rintro ⟨lo, i, hi, rest⟩ ⟨h1, h2, h3, h4, h5, h6⟩
    cases i with
    | zero =>
      have h1' := List.length_eq_zero_iff.1 h1
      subst h1'
      simp [val] at h6
      have hq : val 4294967296 hi = val 4294967296 l / by' := by
        rw [h6, Nat.add_mul_div_left _ _ hb.1, Nat.div_eq_of_lt h5]; omega
      have hr : rest = val 4294967296 l % by' := by
        rw [h6, Nat.add_mul_mod_self_left, Nat.mod_eq_of_lt h5]
      have h2' : hi.length = l.length := by omega
      simp
      rw [← h2']
      refine trim_here hi r (tget_same _ hk) (by omega) (by simp) ?_
      have e : (rest : Int) % 4294967296 = rest := by omega
      simp [u32w, e]
      have := hK hi h4 h2' hq
      rw [hr]; simpa using this
    | succ i =>
      rcases snoc_cases lo with rfl | ⟨lo, x, rfl⟩
      · simp at h1
      · simp at h1
        subst h1
        have hx := h3 x (by simp)
        obtain ⟨X, hX⟩ : ∃ X, X = rest * 4294967296 + x := ⟨_, rfl⟩
        have hq : X / by' < 4294967296 := by
          rw [Nat.div_lt_iff_lt_mul hb.1, hX, Nat.mul_comm]
          have : (rest + 1) * 4294967296 ≤ by' * 4294967296 := Nat.mul_le_mul_right _ h5
          omega
        have e1 : ((rest : Int) * 4294967296 + x) / by' = ((X / by' : Nat) : Int) := by rw [hX]; simp
        have e2 : ((rest : Int) * 4294967296 + x) % by' = ((X % by' : Nat) : Int) := by rw [hX]; simp
        have hr : X % by' < by' := Nat.mod_lt _ hb.1
        have e0 : rest * 4294967296 + x = by' * (X / by') + X % by' := by rw [← hX]; exact (Nat.div_add_mod X by').symm
        generalize X / by' = q at *
        generalize X % by' = rr at *
        simp (disch := omega) [w64, wu64, tget_same _ hk, lget_u32, bits_or, u32w, Int.tdiv_eq_ediv_of_nonneg, Int.tmod_eq_emod_of_nonneg, e1, e2]
        have e3 : (q : Int) % 4294967296 = q := by omega
        refine ⟨by omega, by omega, by omega, by omega, lo, lo.length, q :: hi, rr, ⟨rfl, by simp; omega, fun d hd => h3 d (by simp [hd]), lt_cons h4 hq, hr, ?_⟩, by omega, by simp [leS, e3]⟩
        rw [val_app, Nat.pow_succ] at h6
        simp only [val, Nat.mul_zero, Nat.add_zero] at h6
        exact short_step h6 e0
end Go.Proofs
