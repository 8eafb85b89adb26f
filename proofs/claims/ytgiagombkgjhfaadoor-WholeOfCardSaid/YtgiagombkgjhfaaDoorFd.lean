/- What functions of the given program return (minus_ok), for arguments within the bounds that each theorem names. A text of the prover's own. -/
import Derived.Test.YtgiagombkgjhfaaDoorFc
namespace Go.Proofs
open Go.Sv Go Go.Pl
set_option maxRecDepth 10000 in
theorem minus_ok (p q : List Nat) (hp : ∀ d ∈ p, d < 4294967296) (hq : ∀ d ∈ q, d < 4294967296) (hlp : p.length ≤ 4398046511104) (hlq : q.length ≤ p.length) (T : Nat) (hT : val 4294967296 p = T + val 4294967296 q) :
    PureC Tryd.prog 86 [.ro (p.map u32), .ro (q.map u32)] (tells 4294967296 T p.length) := by
  refine pure_enter Tryd.func86 rfl (by simp) (fun C hC => ?_)
  simp (disch := omega) [w64]
  refine ⟨by omega, ?_⟩
  refine CodeJ.loop (ι := List Nat × Nat × Nat)
    (fun ⟨o, i, c⟩ => ⟨44, [(0, .ro (p.map u32)), (1, .ro (q.map u32)), (5, .view 0 0 p.length), (6, .val (.int .u64 c)), (13, .val (.int .i64 p.length)), (14, .val (.int .i64 i))], [some ⟨1, o.map u32, false⟩]⟩)
    (fun ⟨o, i, c⟩ => o.length = p.length ∧ i ≤ p.length ∧ c ≤ 1 ∧ (∀ d ∈ o, d < 4294967296) ∧
      val 4294967296 (o.take i) + 4294967296 ^ i * val 4294967296 (p.drop i) = T + 4294967296 ^ i * (c + val 4294967296 (q.drop i)))
    (fun ⟨o, i, c⟩ => p.length - i) (List.replicate p.length 0, 0, 0) ?_ ?_ ?_
  · simp [val, hT]
  · simp [leS, hC]
  · rintro ⟨o, i, c⟩ ⟨h1, h2, h3, h4, h5⟩
    have bp := dg_lt hp (by omega) i
    have bq := dg_lt hq (by omega) i
    by_cases hlt : i < p.length
    · have key : ∀ u c', dg p i + 4294967296 * c' = u + dg q i + c → val 4294967296 ((o.set i u).take (i + 1)) + 4294967296 ^ (i + 1) * val 4294967296 (p.drop (i + 1)) = T + 4294967296 ^ (i + 1) * (c' + val 4294967296 (q.drop (i + 1))) := by
        intro u c' e
        rw [take_set_succ _ (by omega), val_app, List.length_take, Nat.min_eq_left (by omega), Nat.pow_succ]
        rw [val_drop _ p i, val_drop _ q i] at h5
        simpa [val] using minus_step h5 e
      obtain ⟨u, c', hu, hc', e0, e1, e2⟩ : ∃ u c' : Nat, u < 4294967296 ∧ c' ≤ 1 ∧ dg p i + 4294967296 * c' = u + dg q i + c ∧ ((dg p i : Int) - c - dg q i) % 18446744073709551616 / 9223372036854775808 = c' ∧ ((dg p i : Int) - c - dg q i) % 4294967296 = u := by
        rcases Nat.lt_or_ge (dg p i) (dg q i + c) with h | h
        · exact ⟨dg p i + 4294967296 - dg q i - c, 1, by omega, by omega, by omega, by omega, by omega⟩
        · exact ⟨dg p i - dg q i - c, 0, by omega, by omega, by omega, by omega, by omega⟩
      have F := lt_set i h4 hu
      by_cases hlq : i < q.length
      · simp (disch := omega) [hlt, hlq, w64, hC, lget_u32, u32w, u64w, e1, e2]
        exact ⟨by omega, o.set i u, i + 1, c', ⟨by simpa using h1, by omega, by omega, F, key u c' e0⟩, by omega, by simp [leS, hC, lset_u32]⟩
      · have := dg_out (l := q) (i := i) (by omega)
        rw [this] at e1 e2
        simp at e1 e2
        simp (disch := omega) [hlt, hlq, w64, hC, lget_u32, u32w, u64w, e1, e2]
        exact ⟨by omega, o.set i u, i + 1, c', ⟨by simpa using h1, by omega, by omega, F, key u c' e0⟩, by omega, by simp [leS, hC, lset_u32]⟩
    · have hi : i = p.length := by omega
      subst hi
      simp (disch := omega) [w64, hC]
      have e1 : p.drop p.length = [] := List.drop_eq_nil_of_le (by omega)
      have e2 : q.drop p.length = [] := List.drop_eq_nil_of_le (by omega)
      have e3 : o.take p.length = o := List.take_of_length_le (by omega)
      have h6 := val_lt o h4
      rw [e1, e2, e3] at h5
      rw [h1] at h6
      have h7 : val 4294967296 o = T := by
        rcases Nat.le_one_iff_eq_zero_or_eq_one.1 h3 with rfl | rfl
        · simpa [val] using h5
        · simp [val] at h5; omega
      exact ⟨_, by simp [List.take_of_length_le, h1], o, rfl, h4, h7, by omega⟩
end Go.Proofs
