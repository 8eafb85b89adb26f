/- What the document's function share returns. A text of the prover's own. -/
import Derived.Test.YtgiagombkgjhfaaDoorGd
namespace Go.Proofs
open Go.Sv Go Go.Pl
/-- a slot that holds the nil slice holds a list of nothing -/
theorem nilRo {P : Program} {C : Ctx} {c : Code} {st : St} {Q : Post} (t : Nat) (h : Sv.get st.fr t = some (.val (.slice none 0 0))) (h' : CodeJ P C c ⟨st.n, (t, .ro []) :: st.fr, st.M⟩ Q) : CodeJ P C c st Q := by
  rintro a w ⟨β, H, hF, hW⟩
  refine h' a w ⟨β, H, ⟨hF.1, hF.2.1, fun t' x hg => ?_⟩, hW⟩
  simp only [Sv.get] at hg
  split at hg
  · rename_i e
    subst e
    simp only [Option.some.injEq] at hg
    subst hg
    obtain ⟨v, h1, h2⟩ := hF.2.2 t _ h
    simp only [Den] at h2
    exact ⟨v, h1, by simp only [Den]; exact .inl ⟨trivial, h2.1⟩⟩
  · exact hF.2.2 t' x hg
theorem tdivG {x y : Int} (h : 0 ≤ x) : x.tdiv y = x / y := Int.tdiv_eq_ediv_of_nonneg h
theorem long_step {n x V : Nat} (hn : n ≠ 0) : (x + 10000 * V) / n = (x + 10000 * (V % n)) / n + 10000 * (V / n) ∧ (x + 10000 * V) % n = (x + 10000 * (V % n)) % n := by
  have h := Nat.div_add_mod V n
  have e : x + 10000 * V = x + 10000 * (V % n) + n * (10000 * (V / n)) := by
    conv => lhs; rw [← h]
    grind
  rw [e, Nat.add_mul_div_left _ _ (by omega), Nat.add_mul_mod_self_left]
  exact ⟨rfl, rfl⟩
set_option maxRecDepth 10000 in
theorem rShare_ok (m n : Nat) (hn : n ≠ 0) (hm : wid 10000 m ≤ 1000000000000) (hn' : wid 10000 n ≤ 1000000000000) :
    PureF Tryd.prog 92 [.ro ((dig 10000 m).map i64), .ro ((dig 10000 n).map i64)] (.tup [.ro ((dig 10000 (m / n)).map i64), .ro ((dig 10000 (m % n)).map i64)]) := by
  refine pure_enter Tryd.func92 rfl (by simp) (fun C hC => ?_)
  have B2 : 2 ≤ 10000 := by omega
  have vm := val_dig B2 m
  have lm := dig_lt B2 m
  have vn := val_dig B2 n
  have ln := dig_lt B2 n
  simp only [wid] at hm
  generalize dig 10000 m = a at *
  subst vm
  simp (disch := omega) [w64]
  refine ⟨by omega, ?_⟩
  refine nilRo 7 rfl ?_
  refine CodeJ.loop (ι := Nat × List Nat)
    (fun ⟨i, o⟩ => ⟨66, [(0, .ro (a.map i64)), (1, .ro ((dig 10000 n).map i64)), (6, .view 0 0 a.length), (7, .ro ((dig 10000 (val 10000 (a.drop i) % n)).map i64)), (8, .val (.int .i64 ((i : Int) - 1)))], [some ⟨1, o.map i64, false⟩]⟩)
    (fun ⟨i, o⟩ => i ≤ a.length ∧ o.length = a.length ∧ (∀ d ∈ o, d < 10000) ∧ val 10000 (o.drop i) = val 10000 (a.drop i) / n)
    (fun ⟨i, o⟩ => i) (a.length, List.replicate a.length 0) ?_ ?_ ?_
  · refine ⟨by omega, by simp, by simp, ?_⟩
    simp [val]
  · simp [leS, hC, val, dig_zero]
  · rintro ⟨i, o⟩ ⟨h1, h2, h3, h4⟩
    cases i with
    | zero =>
      simp (disch := omega) [w64, hC]
      refine callF (rTrim_ok o (by omega)) (by simp [List.take_of_length_le, h2]) ?_
      have e : trimL o = dig 10000 (val 10000 a / n) := by rw [← dig_val (by omega) o h3]; simp at h4; rw [h4]
      simp [e]
    | succ i =>
      obtain ⟨V, hV⟩ : ∃ V, V = val 10000 (a.drop (i + 1)) := ⟨_, rfl⟩
      have bx := dg_lt lm (by omega) i
      have hVi : val 10000 (a.drop i) = dg a i + 10000 * V := by rw [val_drop, hV]
      obtain ⟨r, hr⟩ : ∃ r, r = dg a i + 10000 * (V % n) := ⟨_, rfl⟩
      obtain ⟨s1, s2⟩ := long_step (x := dg a i) (V := V) hn
      rw [← hr, ← hVi] at s1 s2
      simp only [← hV] at h4 ⊢
      have hvn : V % n < n := Nat.mod_lt _ (by omega)
      have hrn : r < 10000 * n := by omega
      have wr : wid 10000 r ≤ 1000000000002 := by
        have := wid_mul (B := 10000) (by omega) 10000 n
        have e2 : wid 10000 10000 ≤ 2 := wid_le (by omega) (by omega)
        have := wid_mono (B := 10000) (by omega) (show r ≤ 10000 * n by omega)
        omega
      have lr : (dig 10000 (V % n)).length ≤ 1000000000000 := Nat.le_trans (wid_mono (B := 10000) (by omega) (show V % n ≤ n by omega)) hn'
      have er : trimL (dg a i :: dig 10000 (V % n)) = dig 10000 r := by
        rw [← dig_val (by omega) _ (by
          intro d hd
          rcases List.mem_cons.1 hd with rfl | hd
          · exact bx
          · exact dig_lt B2 _ d hd)]
        rw [val, val_dig B2, hr]
      have ht := rTrim_ok (dg a i :: dig 10000 (V % n)) (by simp; omega)
      rw [er] at ht
      simp (disch := omega) [w64, hC, lget_i64]
      refine ⟨by omega, by omega, ?_⟩
      refine callF ht (by simp [List.take_of_length_le, Nat.add_comm]) ?_
      simp
      refine CodeJ.loop (ι := Nat × Nat)
        (fun ⟨l, h⟩ => ⟨66, [(0, .ro (a.map i64)), (1, .ro ((dig 10000 n).map i64)), (6, .view 0 0 a.length), (7, .ro ((dig 10000 r).map i64)), (8, .val (.int .i64 i)), (9, .val (.int .i64 l)), (10, .val (.int .i64 h))], [some ⟨1, o.map i64, false⟩]⟩)
        (fun ⟨l, h⟩ => l ≤ r / n ∧ r / n ≤ h ∧ h ≤ 9999) (fun ⟨l, h⟩ => h - l) (0, 9999) ?_ ?_ ?_
      · refine ⟨Nat.zero_le _, ?_, by omega⟩
        have := (Nat.div_lt_iff_lt_mul (Nat.pos_of_ne_zero hn)).2 hrn
        omega
      · simp [leS, hC]
      · rintro ⟨l, h⟩ ⟨g1, g2, g3⟩
        have tim : ∀ k : Nat, k < 10000 → PureF Tryd.prog 112 [.ro ((dig 10000 n).map i64), .val (.int .i64 k)] (.ro ((dig 10000 (n * k)).map i64)) := fun k hk => by
          have := rTimes_ok (dig 10000 n) k ln hk (Nat.le_trans hn' (by omega))
          rwa [vn] at this
        have wk : ∀ k : Nat, k < 10000 → wid 10000 (n * k) ≤ 1000000000001 := fun k hk => by
          have := wid_mul (B := 10000) (by omega) n k
          have e2 : wid 10000 k ≤ 1 := wid_le (by omega) (by omega)
          omega
        by_cases hlh : l < h
        · obtain ⟨k, hk⟩ : ∃ k, k = (l + h + 1) / 2 := ⟨_, rfl⟩
          have hk' : ((l : Int) + h + 1).tdiv 2 = k := by rw [tdivG (by omega)]; omega
          simp (disch := omega) [w64, hC, hlh, hk']
          refine callF (tim k (by omega)) (by simp) ?_
          simp
          refine callF (rSize_ok (n * k) r (Nat.le_trans (wk k (by omega)) (by omega)) (Nat.le_trans wr (by omega))) (by simp) ?_
          have kk : n * k ≤ r ↔ k ≤ r / n := by rw [Nat.le_div_iff_mul_le (Nat.pos_of_ne_zero hn), Nat.mul_comm]
          by_cases hc : n * k ≤ r
          · have e0 : cmp3 (n * k) r ≤ 0 := by unfold cmp3; split <;> (try split) <;> omega
            simp [e0]
            exact ⟨k, h, ⟨kk.1 hc, g2, g3⟩, by omega, by simp [leS, hC]⟩
          · have e0 : ¬ cmp3 (n * k) r ≤ 0 := by unfold cmp3; rw [if_neg (by omega), if_pos (by omega)]; omega
            have e1 : ((k : Int) - 1) = ((k - 1 : Nat) : Int) := by omega
            have nk : ¬ k ≤ r / n := fun h => hc (kk.2 h)
            simp (disch := omega) [e0, w64]
            exact ⟨l, k - 1, ⟨g1, by omega, by omega⟩, by omega, by simp [leS, hC, e1]⟩
        · have hl : l = r / n := by omega
          simp (disch := omega) [w64, hC, hlh, lget_i64, lset_i64, -List.map_set]
          refine ⟨by omega, by omega, ?_⟩
          have l9 : l < 10000 := by omega
          refine callF (tim l l9) (by simp) ?_
          simp
          have hll : n * l ≤ r := by rw [hl]; exact Nat.mul_div_le r n
          refine callF (rLess_ok r (n * l) hll (Nat.le_trans wr (by omega))) (by simp) ?_
          have e5 : r - n * l = r % n := by have := Nat.div_add_mod r n; rw [hl]; omega
          simp only [e5]
          simp (disch := omega) [w64, hC]
          refine ⟨i, o.set i l, ⟨by omega, by simpa using h2, lt_set i h3 l9, ?_⟩, by omega, ?_⟩
          · rw [val_drop, drop_set_succ, h4, s1]
            have : dg (o.set i l) i = l := by simp [dg, List.getD_eq_getElem?_getD, List.getElem?_set_self (show i < o.length by omega)]
            rw [this, hl]
          · simp [leS, hC, s2]
end Go.Proofs
