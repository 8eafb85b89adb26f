/- What functions of the given program return (plus_ok), for arguments within the bounds that each theorem names. A text of the prover's own. -/
import Derived.Test.YtgiagombkgjhfaaDoorFb
import Derived.Test.YtgiagombkgjhfaaDoorNl
namespace Go.Proofs
open Go.Sv Go Go.Pl
/-- a list of digits that tells this number -/
def tells (B n k : Nat) (x : SV) : Prop := ∃ l : List Nat, x = .ro (l.map u32) ∧ (∀ d ∈ l, d < B) ∧ val B l = n ∧ l.length ≤ k
set_option maxRecDepth 10000 in
theorem plus_ok (a b : List Nat) (ha : ∀ d ∈ a, d < 4294967296) (hb : ∀ d ∈ b, d < 4294967296) (hla : a.length ≤ 4398046511104) (hlb : b.length ≤ 4398046511104) :
    PureC Tryd.prog 84 [.ro (a.map u32), .ro (b.map u32)] (tells 4294967296 (val 4294967296 a + val 4294967296 b) (max a.length b.length + 1)) := by
  refine pure_enter Tryd.func84 rfl (by simp) (fun C hC => ?_)
  obtain ⟨s, hs⟩ : ∃ s, s = val 4294967296 a + val 4294967296 b := ⟨_, rfl⟩
  obtain ⟨k, hk⟩ : ∃ k, k = max a.length b.length + 1 := ⟨_, rfl⟩
  obtain ⟨p, q, hp, hq, hlp, hlq, hs', hk', hpq⟩ : ∃ p q : List Nat, (∀ d ∈ p, d < 4294967296) ∧ (∀ d ∈ q, d < 4294967296) ∧ p.length ≤ 4398046511104 ∧ q.length ≤ p.length ∧ val 4294967296 p + val 4294967296 q = s ∧ p.length + 1 = k ∧
      (a.length < b.length ∧ p = b ∧ q = a ∨ ¬ a.length < b.length ∧ p = a ∧ q = b) := by
    rcases Nat.lt_or_ge a.length b.length with h | h
    · exact ⟨b, a, hb, ha, hlb, by omega, by omega, by omega, .inl ⟨h, rfl, rfl⟩⟩
    · exact ⟨a, b, ha, hb, hla, by omega, by omega, by omega, .inr ⟨by omega, rfl, rfl⟩⟩
  rw [← hs, ← hk]
  clear hs hk ha hb hla hlb
  rcases hpq with ⟨h, e1, e2⟩ | ⟨h, e1, e2⟩
  all_goals
    subst e1 e2
    simp (disch := omega) [h, w64]
    refine ⟨by omega, ?_⟩
    refine CodeJ.loop (ι := List Nat × Nat)
      (fun ⟨out, c⟩ => ⟨56, [(0, .ro (p.map u32)), (1, .ro (q.map u32)), (5, .view 0 0 out.length), (6, .val (.int .u64 c)), (21, .val (.int .i64 p.length)), (22, .val (.int .i64 out.length))], [some ⟨1, out.map u32, false⟩]⟩)
      (fun ⟨out, c⟩ => out.length + 1 ≤ k ∧ c ≤ 1 ∧ (∀ d ∈ out, d < 4294967296) ∧
        val 4294967296 out + 4294967296 ^ out.length * (c + (val 4294967296 (p.drop out.length) + val 4294967296 (q.drop out.length))) = s)
      (fun ⟨out, c⟩ => k - out.length) ([], 0) ?_ ?_ ?_
    · simpa [val] using ⟨by omega, hs'⟩
    · simp [leS, hC]
    · rintro ⟨out, c⟩ ⟨h1, h2, h3, h4⟩
      have bp := dg_lt hp (by omega) out.length
      have bq := dg_lt hq (by omega) out.length
      obtain ⟨x, hx⟩ : ∃ x, x = dg p out.length + c + dg q out.length := ⟨_, rfl⟩
      have F1 : ∀ d ∈ out ++ [x % 4294967296], d < 4294967296 := lt_snoc h3 (by omega)
      have F2 : val 4294967296 (out ++ [x % 4294967296]) + 4294967296 ^ (out.length + 1) * (x / 4294967296 + (val 4294967296 (p.drop (out.length + 1)) + val 4294967296 (q.drop (out.length + 1)))) = s := by
        rw [← h4, step_val, val_drop _ p out.length, val_drop _ q out.length, hx]
        congr 2
        omega
      by_cases hlt : out.length < p.length
      · by_cases hlq : out.length < q.length
        · simp (disch := omega) [hlt, hlq, w64, wu64, hC, lget_u32, u32w]
          exact ⟨by omega, out ++ [x % 4294967296], x / 4294967296, ⟨by simp; omega, by omega, F1, by simpa using F2⟩, by simp; omega, by subst hx; simp [leS, hC]⟩
        · have := dg_out (l := q) (i := out.length) (by omega)
          rw [this] at hx
          simp (disch := omega) [hlt, hlq, w64, wu64, hC, lget_u32, u32w]
          exact ⟨by omega, out ++ [x % 4294967296], x / 4294967296, ⟨by simp; omega, by omega, F1, by simpa using F2⟩, by simp; omega, by subst hx; simp [leS, hC]⟩
      · simp (disch := omega) [hlt, w64, wu32, wu64, hC]
        refine ⟨by omega, ?_⟩
        have e1 : p.drop out.length = [] := List.drop_eq_nil_of_le (by omega)
        have e2 : q.drop out.length = [] := List.drop_eq_nil_of_le (by omega)
        simp only [e1, e2, val] at h4
        refine ⟨_, ?_, out ++ [c], rfl, ?_, ?_, ?_⟩
        · simp [List.take_of_length_le]
        · exact lt_snoc h3 (by omega)
        · rw [val_app]; simp [val, ← h4]
        · simp; omega
end Go.Proofs
