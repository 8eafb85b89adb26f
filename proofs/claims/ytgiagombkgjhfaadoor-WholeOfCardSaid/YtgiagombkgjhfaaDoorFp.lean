/- What functions of the given program return (timesPlus_here), for arguments within the bounds that each theorem names. A text of the prover's own. -/
import Derived.Test.YtgiagombkgjhfaaDoorFo
namespace Go.Proofs
open Go.Sv Go Go.Pl
theorem nouse_append (k : Nat) (A B : Tab) : nouse k (A ++ B) = (nouse k A && nouse k B) := by
  induction A with
  | nil => simp [nouse]
  | cons x A ih => cases x <;> simp [nouse, ih, Bool.and_assoc]
set_option maxRecDepth 20000 in
/-- m times b, and d more, in place where there is room -/
theorem timesPlus_here {C : Ctx} {M : Tab} {k n : Nat} {K : Tab → List Nat → SV → Prop} (l : List Nat) (b d : Nat) {d' : Int} (hd' : d' = d) (hn : n = l.length) (hk : tget M k = some ⟨1, l.map u32, false⟩) (hl : l.length ≤ 4398046511103) (hx : ∀ d ∈ l, d < 4294967296) (hb : b < 4294967296) (hd : d < 4294967296)
    (hfx : k ∉ C.fx) (hno : ∀ xs : List Nat, nouse k (tset M k (some ⟨1, xs.map u32, false⟩)) = true) (hK : ∀ (l' : List Nat) (J : Tab), (∀ d ∈ l', d < 4294967296) → l'.length ≤ l.length + 1 → val 4294967296 l' = val 4294967296 l * b + d → K (tset M k (some ⟨1, l'.map u32, false⟩) ++ J) [k] (.view k 0 l'.length)) :
    CallJ Tryd.prog C 82 [.view k 0 n, .val (.int .u32 b), .val (.int .u32 d')] M none K := by
  subst hd' hn
  refine call_here Tryd.func82 rfl (by simp) [k] (by simpa using hfx) (by simp) (fun C' hC => ?_)
  have hkC : k ∉ C'.fx := by rw [hC]; simp
  simp (disch := omega) [w64, wu64]
  refine CodeJ.loop (ι := List Nat × Nat × Nat) (fun ⟨o, i, c⟩ => ⟨43, [(0, .view k 0 l.length), (1, .val (.int .u32 b)), (7, .val (.int .u64 c)), (13, .val (.int .i64 l.length)), (14, .val (.int .i64 i))], tset M k (some ⟨1, o.map u32, false⟩)⟩)
    (fun ⟨o, i, c⟩ => o.length = l.length ∧ i ≤ l.length ∧ (∀ d ∈ o, d < 4294967296) ∧ c < 4294967296 ∧ o.drop i = l.drop i ∧ val 4294967296 (o.take i) + 4294967296 ^ i * c = val 4294967296 (l.take i) * b + d)
    (fun ⟨o, i, c⟩ => l.length - i) (l, 0, d) ?_ ?_ ?_
  · exact ⟨rfl, by omega, hx, hd, rfl, by simp [val]⟩
  · simp [leS, tset_self hk]
  · rintro ⟨o, i, c⟩ ⟨h1, h2, h3, h4, h5, h6⟩
    have hk' := tget_same (M := M) (k := k) ⟨1, o.map u32, false⟩ hk
    by_cases hlt : i < l.length
    · have bo := dg_lt h3 (by omega) i
      have ho : dg o i = dg l i := dg_drop h5
      obtain ⟨t, ht⟩ : ∃ t, t = dg o i * b + c := ⟨_, rfl⟩
      have hgv : dg o i * b ≤ 4294967295 * 4294967295 := Nat.mul_le_mul (by omega) (by omega)
      have hgv' : (dg o i : Int) * b ≤ 18446744065119617025 := by rw [← Int.natCast_mul]; omega
      have hgv0 : (0 : Int) ≤ (dg o i : Int) * b := by rw [← Int.natCast_mul]; omega
      have e1 : (dg o i : Int) * b + c = t := by rw [ht]; push_cast; rfl
      obtain ⟨c', hc'⟩ : ∃ c', c' = t / 4294967296 := ⟨_, rfl⟩
      obtain ⟨lo, hlo⟩ : ∃ lo, lo = t % 4294967296 := ⟨_, rfl⟩
      have e2 : (t : Int) % 4294967296 = lo := by omega
      have e3 : (t : Int) / 4294967296 = c' := by omega
      have hlo2 : lo < 4294967296 := by omega
      have F := lt_set i h3 hlo2
      have G : val 4294967296 ((o.set i lo).take (i + 1)) + 4294967296 ^ (i + 1) * c' = val 4294967296 (l.take (i + 1)) * b + d := by
        rw [take_set_succ _ (by omega), val_app, List.length_take, Nat.min_eq_left (by omega), val_take', Nat.pow_succ]
        simp only [val, Nat.mul_zero, Nat.add_zero]
        have e := Nat.mod_add_div t 4294967296
        rw [← hlo, ← hc', ht, ho] at e
        generalize 4294967296 ^ i = P at *
        grind
      have D : (o.set i lo).drop (i + 1) = l.drop (i + 1) := by rw [drop_set_succ]; exact drop_drop_eq h5
      simp (disch := omega) [w64, wu64, hlt, hk', lget_u32, u32w, lset_u32, e1, e2, e3, -List.map_set]
      repeat refine And.intro (by omega) ?_
      refine ⟨o.set i lo, i + 1, c', ⟨by simpa using h1, by omega, F, by omega, D, G⟩, by omega, by simp [leS]⟩
    · obtain rfl : i = l.length := by omega
      rw [List.take_length, List.take_of_length_le (by omega)] at h6
      by_cases hc : 0 < c
      · have q1 := fun x => tget_snoc_lt x hk'
        have q2 := fun x => tget_len (M := tset M k (some ⟨1, o.map u32, false⟩)) (n := M.length) x (by simp)
        have q3 := fun x y => tset_snoc_lt x y hk'
        have e : (c : Int) % 4294967296 = c := by omega
        simp (disch := omega) [w64, hc, hk', u32w, hkC, h1, q1, q2, q3, e]
        refine ⟨⟨by rw [nouse_append, hno]; simp, by omega⟩, ?_⟩
        have := hK (o ++ [c]) [some ⟨1, [.val (.int .u32 c)], false⟩] (lt_snoc h3 h4) (by simp; omega) (by rw [val_app, h1]; simpa [val] using h6)
        simpa [h1] using this
      · obtain rfl : c = 0 := by omega
        simp (disch := omega) [w64]
        have := hK o [] h3 (by omega) (by simpa using h6)
        rw [h1] at this
        simpa using this
end Go.Proofs
