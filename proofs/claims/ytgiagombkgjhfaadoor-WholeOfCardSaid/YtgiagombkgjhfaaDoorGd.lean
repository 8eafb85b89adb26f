/- What the document's function Mul returns. A text of the prover's own. -/
import Derived.Test.YtgiagombkgjhfaaDoorGc
namespace Go.Proofs
open Go.Sv Go Go.Pl
theorem val_set {B : Nat} {l : List Nat} {j : Nat} (u : Nat) (h : j < l.length) : val B (l.set j u) + B ^ j * dg l j = val B l + B ^ j * u := by
  induction l generalizing j with
  | nil => simp at h
  | cons a l ih =>
    cases j with
    | zero => simp [val, dg]; omega
    | succ j =>
      have := ih (j := j) (by simpa using h)
      simp only [List.set_cons_succ, val]
      have e : dg (a :: l) (j + 1) = dg l j := by simp [dg]
      rw [e, Nat.pow_succ]
      grind
theorem dg_ge {l l' : List Nat} {n k : Nat} (h : l.drop n = l'.drop n) (hk : n ≤ k) : dg l k = dg l' k := by
  have e := congrArg (fun x => x[k - n]?) h
  simp only [List.getElem?_drop, show n + (k - n) = k by omega] at e
  unfold dg; rw [List.getD_eq_getElem?_getD, List.getD_eq_getElem?_getD, e]
set_option maxRecDepth 10000 in
theorem rMul_ok (x y : Int) (hm : rfit x) (hn : rfit y) :
    PureF Tryd.prog 34 [nsv x, nsv y] (nsv (x * y)) := by
  refine pure_enter Tryd.func34 rfl (by simp) (fun C hC => ?_)
  have B2 : 2 ≤ 10000 := by omega
  have vx := val_dig B2 x.natAbs
  have vy := val_dig B2 y.natAbs
  have lx := dig_lt B2 x.natAbs
  have ly := dig_lt B2 y.natAbs
  have hxm : (if (decide (x < 0) != decide (y < 0)) = true then -((x.natAbs * y.natAbs : Nat) : Int) else ((x.natAbs * y.natAbs : Nat) : Int)) = x * y := sgn_mul x y
  simp only [rfit, wid] at hm hn
  simp [nsv]
  generalize dig 10000 x.natAbs = a at *
  generalize dig 10000 y.natAbs = b at *
  simp (disch := omega) [w64]
  refine ⟨by omega, ?_⟩
  refine CodeJ.loop (ι := List Nat × Nat)
    (fun ⟨o, i⟩ => ⟨79, [(2, .ptr 0 0 0), (3, .ptr 1 0 0), (4, .ptr 2 0 0), (5, .view 3 0 (a.length + b.length + 1)), (6, .val (.int .i64 i))],
      [some ⟨2, [.agg [.val (.bool (decide (x < 0))), .ro (a.map i64)]], false⟩, some ⟨2, [.agg [.val (.bool (decide (y < 0))), .ro (b.map i64)]], false⟩, some ⟨2, [.agg [.val (.bool false), .val (.slice none 0 0)]], false⟩, some ⟨1, o.map i64, false⟩]⟩)
    (fun ⟨o, i⟩ => o.length = a.length + b.length + 1 ∧ i ≤ a.length ∧ (∀ d ∈ o, d < 10000) ∧ (∀ j, i + b.length ≤ j → dg o j = 0) ∧ val 10000 o = val 10000 (a.take i) * val 10000 b)
    (fun ⟨o, i⟩ => a.length - i) (List.replicate (a.length + b.length + 1) 0, 0) ?_ ?_ ?_
  · refine ⟨by simp, by omega, by simp, ?_, ?_⟩
    · intro j _; unfold dg; rw [List.getD_eq_getElem?_getD, List.getElem?_replicate]; split <;> rfl
    · simp [val_rep]; simp [val]
  · simp [leS, hC]
    omega
  · rintro ⟨o, i⟩ ⟨h1, h2, h3, hz, h4⟩
    by_cases hlt : i < a.length
    · simp (disch := omega) [hlt, w64, hC]
      have bx := dg_lt lx (by omega) i
      refine CodeJ.loop (ι := List Nat × Nat × Nat)
        (fun ⟨o', j, c⟩ => ⟨79, [(2, .ptr 0 0 0), (3, .ptr 1 0 0), (4, .ptr 2 0 0), (5, .view 3 0 (a.length + b.length + 1)), (6, .val (.int .i64 i)), (7, .val (.int .i64 c)), (8, .val (.int .i64 j))],
          [some ⟨2, [.agg [.val (.bool (decide (x < 0))), .ro (a.map i64)]], false⟩, some ⟨2, [.agg [.val (.bool (decide (y < 0))), .ro (b.map i64)]], false⟩, some ⟨2, [.agg [.val (.bool false), .val (.slice none 0 0)]], false⟩, some ⟨1, o'.map i64, false⟩]⟩)
        (fun ⟨o', j, c⟩ => o'.length = a.length + b.length + 1 ∧ (j ≤ b.length ∨ j = b.length + 1 ∧ c = 0) ∧ c < 10000 ∧ (∀ d ∈ o', d < 10000) ∧ o'.drop (i + j) = o.drop (i + j) ∧
          val 10000 o' + 10000 ^ (i + j) * c = val 10000 o + 10000 ^ i * (dg a i * val 10000 (b.take j)))
        (fun ⟨o', j, c⟩ => b.length + 1 - j) (o, 0, 0) ?_ ?_ ?_
      · exact ⟨h1, by omega, by omega, h3, rfl, by simp [val]⟩
      · simp [leS, hC]
      · rintro ⟨o', j, c⟩ ⟨g1, g2, g3, g4, g5, g6⟩
        have hd : dg o' (i + j) = dg o (i + j) := dg_drop g5
        have bo := dg_lt g4 (by omega) (i + j)
        have by_ := dg_lt ly (by omega) j
        obtain ⟨p, hp⟩ : ∃ p, p = dg a i * dg b j := ⟨_, rfl⟩
        have hp' : p ≤ 9999 * 9999 := by rw [hp]; exact Nat.mul_le_mul (by omega) (by omega)
        have hpz : (dg a i : Int) * dg b j = p := by rw [hp, Int.natCast_mul]
        obtain ⟨t, ht⟩ : ∃ t, t = dg o' (i + j) + c + p := ⟨_, rfl⟩
        have F := lt_set (i + j) g4 (Nat.mod_lt t (show 0 < 10000 by omega))
        have E := Nat.mod_add_div t 10000
        have K : val 10000 (o'.set (i + j) (t % 10000)) + 10000 ^ (i + (j + 1)) * (t / 10000) = val 10000 o + 10000 ^ i * (dg a i * val 10000 (b.take (j + 1))) := by
          have := val_set (B := 10000) (t % 10000) (show i + j < o'.length by omega)
          rw [val_take']
          rw [← Nat.add_assoc, Nat.pow_succ]
          have e : (10000 : Nat) ^ (i + j) = 10000 ^ i * 10000 ^ j := Nat.pow_add ..
          rw [e] at this g6 ⊢
          grind
        have D : (o'.set (i + j) (t % 10000)).drop (i + (j + 1)) = o.drop (i + (j + 1)) := by
          rw [← Nat.add_assoc, drop_set_succ]; exact drop_drop_eq g5
        by_cases hlj : j < b.length
        · simp (disch := omega) [hlj, w64, hC, lget_i64]
          refine ⟨by omega, by omega, ?_⟩
          refine CodeJ.draw (.qs [0, 1, 2, 3, 4, 5, 6, 7, 8, 9, 10, 11, 12, 13] <| .nil) (by kernel_rfl) (by kernel_rfl) (by simp) ?_
          simp (disch := omega) [hlj, w64, hC, lget_i64, hpz, tmodN, tdivN, -List.map_set]
          repeat refine And.intro (by omega) ?_
          refine ⟨o'.set (i + j) (t % 10000), j + 1, t / 10000, ⟨by simpa using g1, by omega, by omega, F, D, K⟩, by omega, ?_⟩
          subst ht
          simp [leS, hC, lset_eq]
        · have gb := dg_out (l := b) (i := j) (by omega)
          have hp0 : p = 0 := by rw [hp, gb]; simp
          rw [hp0] at ht
          by_cases hc : 0 < c
          · have hjb : j = b.length := by omega
            have hz' : dg o' (i + j) = 0 := by rw [hd]; exact hz _ (by omega)
            rw [hz'] at ht
            have ht' : t % 10000 = c := by omega
            have ht'' : t / 10000 = 0 := by omega
            simp (disch := omega) [hlj, hc, w64, hC, lget_i64, hz', tmodN, tdivN, -List.map_set]
            repeat refine And.intro (by omega) ?_
            refine ⟨o'.set (i + j) (t % 10000), j + 1, t / 10000, ⟨by simpa using g1, by omega, by omega, F, D, K⟩, by omega, ?_⟩
            subst ht
            simp [leS, hC, lset_eq]
          · have hc' : c = 0 := by omega
            subst hc'
            simp (disch := omega) [hlj, w64, hC]
            refine ⟨o', i + 1, ⟨g1, by omega, g4, fun k hk => ?_, ?_⟩, by omega, by simp [leS, hC]⟩
            · rw [dg_ge g5 (by omega)]; exact hz _ (by omega)
            · have tb : b.take j = b := List.take_of_length_le (by omega)
              rw [tb, h4] at g6
              rw [val_take']
              grind
    · obtain rfl : i = a.length := by omega
      simp (disch := omega) [w64, hC]
      have e1 : a.take a.length = a := List.take_length
      rw [e1, vx, vy] at h4
      have hmd := rMade_ok (decide (x < 0) != decide (y < 0)) o (by omega) h3
      rw [h4, hxm] at hmd
      refine callF hmd (by simp [List.take_of_length_le, h1, bne]) ?_
      simp [nsv]
end Go.Proofs
