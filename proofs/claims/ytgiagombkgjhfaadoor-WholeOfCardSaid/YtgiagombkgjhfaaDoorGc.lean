/- What the document's functions less, Add and Sub return. A text of the prover's own. -/
import Derived.Test.YtgiagombkgjhfaaDoorGb
namespace Go.Proofs
open Go.Sv Go Go.Pl
set_option maxRecDepth 10000 in
theorem rLess_ok (m n : Nat) (hmn : n ≤ m) (hm : wid 10000 m ≤ 4398046511104) : PureF Tryd.prog 91 [.ro ((dig 10000 m).map i64), .ro ((dig 10000 n).map i64)] (.ro ((dig 10000 (m - n)).map i64)) := by
  refine pure_enter Tryd.func91 rfl (by simp) (fun C hC => ?_)
  have B2 : 2 ≤ 10000 := by omega
  have hp := dig_lt B2 m
  have hq := dig_lt B2 n
  have hlq : (dig 10000 n).length ≤ (dig 10000 m).length := wid_mono B2 hmn
  obtain ⟨T, hTd⟩ : ∃ T, T = m - n := ⟨_, rfl⟩
  have hT : val 10000 (dig 10000 m) = T + val 10000 (dig 10000 n) := by rw [val_dig B2, val_dig B2]; omega
  rw [← hTd]
  simp only [wid] at hm
  generalize dig 10000 m = p at *
  generalize dig 10000 n = q at *
  simp
  refine CodeJ.nil 5 1 rfl ?_
  refine CodeJ.loop (ι := List Nat × Nat)
    (fun ⟨o, c⟩ => ⟨41, [(0, .ro (p.map i64)), (1, .ro (q.map i64)), (5, .view 0 0 o.length), (6, .val (.int .i64 c)), (7, .val (.int .i64 o.length))], [some ⟨1, o.map i64, false⟩]⟩)
    (fun ⟨o, c⟩ => o.length ≤ p.length ∧ c ≤ 1 ∧ (∀ d ∈ o, d < 10000) ∧
      val 10000 o + 10000 ^ o.length * val 10000 (p.drop o.length) = T + 10000 ^ o.length * (c + val 10000 (q.drop o.length)))
    (fun ⟨o, c⟩ => p.length - o.length) ([], 0) ?_ ?_ ?_
  · exact ⟨by simp, by omega, by simp, by simpa [val] using hT⟩
  · simp [leS, hC]
  · rintro ⟨o, c⟩ ⟨h1, h2, h3, h4⟩
    have bp := dg_lt hp (by omega) o.length
    have bq := dg_lt hq (by omega) o.length
    by_cases hlt : o.length < p.length
    · have key : ∀ u c', dg p o.length + 10000 * c' = u + dg q o.length + c → val 10000 (o ++ [u]) + 10000 ^ (o.length + 1) * val 10000 (p.drop (o.length + 1)) = T + 10000 ^ (o.length + 1) * (c' + val 10000 (q.drop (o.length + 1))) := by
        intro u c' e
        rw [val_drop _ p o.length, val_drop _ q o.length] at h4
        rw [val_app, Nat.pow_succ]
        simpa [val] using minus_step h4 e
      have fin : ∀ u c', dg p o.length + 10000 * c' = u + dg q o.length + c → u < 10000 → c' ≤ 1 →
          (o ++ [u]).length ≤ p.length ∧ c' ≤ 1 ∧ (∀ d ∈ o ++ [u], d < 10000) ∧ val 10000 (o ++ [u]) + 10000 ^ (o ++ [u]).length * val 10000 (p.drop (o ++ [u]).length) = T + 10000 ^ (o ++ [u]).length * (c' + val 10000 (q.drop (o ++ [u]).length)) := fun u c' e hu hc' =>
        ⟨by simp; omega, hc', lt_snoc h3 hu, by simpa using key u c' e⟩
      by_cases hlq' : o.length < q.length
      · by_cases hneg : dg p o.length < c + dg q o.length
        · have hneg' : (dg p o.length : Int) - c - dg q o.length < 0 := by omega
          obtain ⟨u, hu⟩ : ∃ u : Nat, u = dg p o.length + 10000 - c - dg q o.length := ⟨_, rfl⟩
          have hu' : (dg p o.length : Int) - c - dg q o.length + 10000 = u := by omega
          simp (disch := omega) [hlt, hlq', w64, hC, lget_i64, hneg', hu']
          exact ⟨by omega, o ++ [u], 1, fin u 1 (by omega) (by omega) (by omega), by simp; omega, by simp [leS, hC]⟩
        · have hneg' : ¬ (dg p o.length : Int) - c - dg q o.length < 0 := by omega
          obtain ⟨u, hu⟩ : ∃ u : Nat, u = dg p o.length - c - dg q o.length := ⟨_, rfl⟩
          have hu' : (dg p o.length : Int) - c - dg q o.length = u := by omega
          simp (disch := omega) [hlt, hlq', w64, hC, lget_i64, hneg', hu']
          exact ⟨by omega, by omega, o ++ [u], 0, fin u 0 (by omega) (by omega) (by omega), by simp; omega, by simp [leS, hC]⟩
      · have gq := dg_out (l := q) (i := o.length) (by omega)
        by_cases hneg : dg p o.length < c
        · have hneg' : (dg p o.length : Int) - c < 0 := by omega
          obtain ⟨u, hu⟩ : ∃ u : Nat, u = dg p o.length + 10000 - c := ⟨_, rfl⟩
          have hu' : (dg p o.length : Int) - c + 10000 = u := by omega
          simp (disch := omega) [hlt, hlq', w64, hC, lget_i64, hneg', hu']
          exact ⟨by omega, o ++ [u], 1, fin u 1 (by omega) (by omega) (by omega), by simp; omega, by simp [leS, hC]⟩
        · have hneg' : ¬ (dg p o.length : Int) - c < 0 := by omega
          obtain ⟨u, hu⟩ : ∃ u : Nat, u = dg p o.length - c := ⟨_, rfl⟩
          have hu' : (dg p o.length : Int) - c = u := by omega
          simp (disch := omega) [hlt, hlq', w64, hC, lget_i64, hneg', hu']
          exact ⟨by omega, by omega, o ++ [u], 0, fin u 0 (by omega) (by omega) (by omega), by simp; omega, by simp [leS, hC]⟩
    · have hi : o.length = p.length := by omega
      have e1 : p.drop o.length = [] := List.drop_eq_nil_of_le (by omega)
      have e2 : q.drop o.length = [] := List.drop_eq_nil_of_le (by omega)
      have h6 := val_lt o h3
      rw [e1, e2] at h4
      have h7 : val 10000 o = T := by
        rcases Nat.le_one_iff_eq_zero_or_eq_one.1 h2 with rfl | rfl
        · simpa [val] using h4
        · simp [val] at h4; omega
      simp (disch := omega) [hlt, w64, hC]
      refine callF (rTrim_ok o (by omega)) (by simp [List.take_of_length_le]) ?_
      have e : trimL o = dig 10000 T := by rw [← dig_val (by omega) o h3, h7]
      simp [e]
/-- not too great for the document's reckoning -/
def rfit (x : Int) : Prop := wid 10000 x.natAbs ≤ 1000000000000
theorem rfit_neg {x : Int} : rfit (-x) ↔ rfit x := by simp [rfit]
set_option maxRecDepth 10000 in
theorem rAdd_ok (x y : Int) (hm : rfit x) (hn : rfit y) : PureF Tryd.prog 32 [nsv x, nsv y] (nsv (x + y)) := by
  refine pure_enter Tryd.func32 rfl (by simp) (fun C hC => ?_)
  have B2 : 2 ≤ 10000 := by omega
  have vx := val_dig B2 x.natAbs
  have vy := val_dig B2 y.natAbs
  have lx := dig_lt B2 x.natAbs
  have ly := dig_lt B2 y.natAbs
  have hm' := hm
  have hn' := hn
  simp only [rfit, wid] at hm' hn'
  by_cases hs : (x < 0 ↔ y < 0)
  · simp [nsv, hs]
    refine callP (rMore_ok _ _ lx ly (by omega) (by omega)) (by simp) ?_
    rintro _ ⟨l, rfl, h1, h2, h3⟩
    simp
    have e : (if decide (y < 0) = true then -(val 10000 l : Int) else (val 10000 l : Int)) = x + y := by
      rw [h2, vx, vy]; split <;> simp_all <;> omega
    have hmd := rMade_ok (decide (y < 0)) l (by omega) h1
    rw [e] at hmd
    refine callF hmd (by simp) ?_
    simp [nsv]
  · have hc := rSize_ok _ _ (show wid 10000 x.natAbs ≤ 4398046511104 by simp only [wid]; omega) (show wid 10000 y.natAbs ≤ 4398046511104 by simp only [wid]; omega)
    have fin : ∀ (σ : Bool) (k : Nat), wid 10000 k ≤ 4398046511104 → (if σ = true then -(k : Int) else (k : Int)) = x + y → PureF Tryd.prog 81 [.val (.bool σ), .ro ((dig 10000 k).map i64)] (nsv (x + y)) := fun σ k hk e => by
      have := rMade_ok σ (dig 10000 k) hk (dig_lt B2 k)
      rwa [val_dig B2, e] at this
    rcases Nat.lt_or_ge x.natAbs y.natAbs with h | h
    · have e0 : cmp3 x.natAbs y.natAbs = -1 := by simp [cmp3, h]
      rw [e0] at hc
      have hl := rLess_ok y.natAbs x.natAbs (by omega) (by simp only [wid]; omega)
      simp [nsv, hs]
      refine callF hc (by simp) ?_
      simp
      refine callF hl (by simp) ?_
      simp
      refine callF (fin (decide (y < 0)) (y.natAbs - x.natAbs) (Nat.le_trans (wid_mono B2 (Nat.sub_le _ _)) (by simp only [wid]; omega)) (by split <;> simp_all <;> omega)) (by simp) ?_
      simp [nsv]
    · have e0 : cmp3 x.natAbs y.natAbs = if y.natAbs < x.natAbs then 1 else 0 := by simp [cmp3]; omega
      rw [e0] at hc
      have hl := rLess_ok x.natAbs y.natAbs (by omega) (by simp only [wid]; omega)
      simp [nsv, hs]
      refine callF hc (by simp) ?_
      have e1 : (0 : Int) ≤ (if y.natAbs < x.natAbs then (1 : Int) else 0) := by split <;> omega
      simp [e1]
      refine callF hl (by simp) ?_
      simp
      refine callF (fin (decide (x < 0)) (x.natAbs - y.natAbs) (Nat.le_trans (wid_mono B2 (Nat.sub_le _ _)) (by simp only [wid]; omega)) (by split <;> simp_all <;> omega)) (by simp) ?_
      simp [nsv]
set_option maxRecDepth 10000 in
theorem rSub_ok (x y : Int) (hm : rfit x) (hn : rfit y) : PureF Tryd.prog 33 [nsv x, nsv y] (nsv (x - y)) := by
  refine pure_enter Tryd.func33 rfl (by simp) (fun C hC => ?_)
  simp
  refine callF (rNeg_ok y) (by simp) ?_
  simp
  refine callF (rAdd_ok x (-y) hm (rfit_neg.2 hn)) (by simp) ?_
  simp [Int.sub_eq_add_neg]
end Go.Proofs
