/- What the document's functions more and times return. A text of the prover's own. -/
import Derived.Test.YtgiagombkgjhfaaDoorGa
namespace Go.Proofs
open Go.Sv Go Go.Pl
/-- a list of digits that tells this number -/
def rTells (B n k : Nat) (x : SV) : Prop := ∃ l : List Nat, x = .ro (l.map i64) ∧ (∀ d ∈ l, d < B) ∧ val B l = n ∧ l.length ≤ k
theorem tmodN {x : Int} (h : 0 ≤ x) : x.tmod 10000 = x % 10000 := Int.tmod_eq_emod_of_nonneg h
theorem tdivN {x : Int} (h : 0 ≤ x) : x.tdiv 10000 = x / 10000 := Int.tdiv_eq_ediv_of_nonneg h
set_option maxRecDepth 10000 in
theorem rMore_ok (a b : List Nat) (ha : ∀ d ∈ a, d < 10000) (hb : ∀ d ∈ b, d < 10000) (hla : a.length ≤ 4398046511104) (hlb : b.length ≤ 4398046511104) :
    PureC Tryd.prog 89 [.ro (a.map i64), .ro (b.map i64)] (rTells 10000 (val 10000 a + val 10000 b) (max a.length b.length + 1)) := by
  refine pure_enter Tryd.func89 rfl (by simp) (fun C hC => ?_)
  obtain ⟨k, hk⟩ : ∃ k, k = max a.length b.length := ⟨_, rfl⟩
  obtain ⟨s, hs⟩ : ∃ s, s = val 10000 a + val 10000 b := ⟨_, rfl⟩
  rw [← hk, ← hs]
  simp
  refine CodeJ.nil 5 1 rfl ?_
  refine CodeJ.loop (ι := List Nat × Nat)
    (fun ⟨out, c⟩ => ⟨52, [(0, .ro (a.map i64)), (1, .ro (b.map i64)), (5, .view 0 0 out.length), (6, .val (.int .i64 c)), (7, .val (.int .i64 out.length))], [some ⟨1, out.map i64, false⟩]⟩)
    (fun ⟨out, c⟩ => out.length + c ≤ k + 1 ∧ c ≤ 1 ∧ (∀ d ∈ out, d < 10000) ∧
      val 10000 out + 10000 ^ out.length * (c + (val 10000 (a.drop out.length) + val 10000 (b.drop out.length))) = s)
    (fun ⟨out, c⟩ => k + 1 - out.length) ([], 0) ?_ ?_ ?_
  · simpa [val] using hs.symm
  · simp [leS, hC]
  · rintro ⟨out, c⟩ ⟨h1, h2, h3, h4⟩
    have bp := dg_lt ha (by omega) out.length
    have bq := dg_lt hb (by omega) out.length
    obtain ⟨x, hx⟩ : ∃ x, x = c + dg a out.length + dg b out.length := ⟨_, rfl⟩
    have F1 : ∀ d ∈ out ++ [x % 10000], d < 10000 := lt_snoc h3 (by omega)
    have F2 : val 10000 (out ++ [x % 10000]) + 10000 ^ (out.length + 1) * (x / 10000 + (val 10000 (a.drop (out.length + 1)) + val 10000 (b.drop (out.length + 1)))) = s := by
      rw [← h4, step_val, val_drop _ a out.length, val_drop _ b out.length, hx]
      congr 2
      omega
    by_cases h5 : out.length < a.length
    · by_cases h6 : out.length < b.length
      · simp (disch := omega) [h5, h6, w64, hC, lget_i64, tmodN, tdivN]
        exact ⟨by omega, out ++ [x % 10000], x / 10000, ⟨by simp; omega, by omega, F1, by simpa using F2⟩, by simp; omega, by subst hx; simp [leS, hC]⟩
      · have := dg_out (l := b) (i := out.length) (by omega)
        rw [this] at hx
        simp (disch := omega) [h5, h6, w64, hC, lget_i64, tmodN, tdivN]
        exact ⟨by omega, out ++ [x % 10000], x / 10000, ⟨by simp; omega, by omega, F1, by simpa using F2⟩, by simp; omega, by subst hx; simp [leS, hC]⟩
    · have ga := dg_out (l := a) (i := out.length) (by omega)
      by_cases h6 : out.length < b.length
      · rw [ga] at hx
        simp (disch := omega) [h5, h6, w64, hC, lget_i64, tmodN, tdivN]
        exact ⟨by omega, out ++ [x % 10000], x / 10000, ⟨by simp; omega, by omega, F1, by simpa using F2⟩, by simp; omega, by subst hx; simp [leS, hC]⟩
      · have gb := dg_out (l := b) (i := out.length) (by omega)
        rw [ga, gb] at hx
        by_cases hc : 0 < c
        · have hc' : c = 1 := by omega
          subst hc'
          simp (disch := omega) [h5, h6, w64, hC, tmodN, tdivN]
          exact ⟨by omega, out ++ [x % 10000], x / 10000, ⟨by simp; omega, by omega, F1, by simpa using F2⟩, by simp; omega, by subst hx; simp [leS, hC]⟩
        · have hc' : c = 0 := by omega
          subst hc'
          have e1 : a.drop out.length = [] := List.drop_eq_nil_of_le (by omega)
          have e2 : b.drop out.length = [] := List.drop_eq_nil_of_le (by omega)
          simp only [e1, e2, val] at h4
          simp (disch := omega) [h5, h6, w64, hC]
          exact ⟨_, by simp [List.take_of_length_le], out, rfl, h3, by simpa using h4, by omega⟩
set_option maxRecDepth 10000 in
theorem rTimes_ok (a : List Nat) (x : Nat) (ha : ∀ d ∈ a, d < 10000) (hx : x < 10000) (hla : a.length ≤ 2000000000000) :
    PureF Tryd.prog 112 [.ro (a.map i64), .val (.int .i64 x)] (.ro ((dig 10000 (val 10000 a * x)).map i64)) := by
  refine pure_enter Tryd.func112 rfl (by simp) (fun C hC => ?_)
  obtain ⟨s, hs⟩ : ∃ s, s = val 10000 a * x := ⟨_, rfl⟩
  rw [← hs]
  simp
  refine CodeJ.nil 5 1 rfl ?_
  refine CodeJ.loop (ι := List Nat × Nat)
    (fun ⟨out, c⟩ => ⟨39, [(0, .ro (a.map i64)), (1, .val (.int .i64 x)), (5, .view 0 0 out.length), (6, .val (.int .i64 c)), (7, .val (.int .i64 out.length))], [some ⟨1, out.map i64, false⟩]⟩)
    (fun ⟨out, c⟩ => (out.length ≤ a.length ∨ out.length = a.length + 1 ∧ c = 0) ∧ c < 10000 ∧ (∀ d ∈ out, d < 10000) ∧
      val 10000 out + 10000 ^ out.length * (c + x * val 10000 (a.drop out.length)) = s)
    (fun ⟨out, c⟩ => a.length + 1 - out.length) ([], 0) ?_ ?_ ?_
  · exact ⟨.inl (by simp), by omega, by simp, by simp [val, hs, Nat.mul_comm]⟩
  · simp [leS, hC]
  · rintro ⟨out, c⟩ ⟨h1, h2, h3, h4⟩
    have bp := dg_lt ha (by omega) out.length
    obtain ⟨p, hp⟩ : ∃ p, p = dg a out.length * x := ⟨_, rfl⟩
    have hp' : p ≤ 9999 * 9999 := by rw [hp]; exact Nat.mul_le_mul (by omega) (by omega)
    have hpz : (dg a out.length : Int) * x = p := by rw [hp, Int.natCast_mul]
    obtain ⟨y, hy⟩ : ∃ y, y = c + p := ⟨_, rfl⟩
    have F1 : ∀ d ∈ out ++ [y % 10000], d < 10000 := lt_snoc h3 (by omega)
    have F2 : val 10000 (out ++ [y % 10000]) + 10000 ^ (out.length + 1) * (y / 10000 + x * val 10000 (a.drop (out.length + 1))) = s := by
      rw [← h4, step_val, val_drop _ a out.length, hy, hp]
      congr 2
      grind
    by_cases h5 : out.length < a.length
    · simp (disch := omega) [h5, w64, hC, lget_i64, tmodN, tdivN, hpz]
      exact ⟨by omega, out ++ [y % 10000], y / 10000, ⟨by simp; omega, by omega, F1, by simpa using F2⟩, by simp; omega, by subst hy; simp [leS, hC]⟩
    · have ga := dg_out (l := a) (i := out.length) (by omega)
      have hp0 : p = 0 := by rw [hp, ga]; simp
      rw [hp0] at hy
      by_cases hc : 0 < c
      · simp (disch := omega) [h5, hc, w64, hC, tmodN, tdivN]
        exact ⟨by omega, out ++ [y % 10000], y / 10000, ⟨by simp; omega, by omega, F1, by simpa using F2⟩, by simp; omega, by subst hy; simp [leS, hC]⟩
      · have hc' : c = 0 := by omega
        subst hc'
        have e1 : a.drop out.length = [] := List.drop_eq_nil_of_le (by omega)
        simp only [e1, val] at h4
        simp (disch := omega) [h5, w64, hC]
        refine callF (rTrim_ok out (by omega)) (by simp [List.take_of_length_le]) ?_
        have e : trimL out = dig 10000 s := by rw [← dig_val (by omega) out h3]; simp at h4; rw [h4]
        simp [e]
end Go.Proofs
