/- Whether values keep a puzzle: the document's way, and the program's. A text of the prover's own. -/
import Derived.Test.YtadkomdooleipaaGreatDoorKAo
import Derived.Test.YtadkomdooleipaaGreatDoorKAj
namespace Go.Proofs
open Go.Sv Go Go.Tb Go.Pl Go.Ut Go.Fn
theorem nodup_take {v : List Int} {i : Nat} (hi : i < v.length) : (v.take (i + 1)).Nodup ↔ (v.take i).Nodup ∧ gt v i ∉ v.take i := by
  rw [take_gt hi, List.nodup_append]
  constructor
  · rintro ⟨h1, _, h3⟩
    exact ⟨h1, fun hm => h3 _ hm _ (by simp) rfl⟩
  · rintro ⟨h1, h2⟩
    exact ⟨h1, by simp, fun a ha b hb e => h2 (by simp at hb; rw [← hb, ← e]; exact ha)⟩
set_option maxRecDepth 10000 in
set_option maxHeartbeats 2000000 in
theorem rkept_ok {n : Nat} (c : Con) (hf : FewC c) (hc : ConOK n c) (v : List Int) (al : v.length = c.vars.length) (ha : ∀ i, i < v.length → Bd8 (gt v i)) : PureC Tryz.prog 41 [conV c, .ro (v.map iv)] (TB (keptP c v)) := by
  have h1 := hf.v
  have lv := fun (i : Nat) (hi : i < v.length) => lget_iv (l := v) hi
  have ln := fun (i : Nat) (hi : i < c.nums.length) => lget_iv (l := c.nums) hi
  have lu := fun (i : Nat) (hi : i < c.uses.length) => lget_iv (l := c.uses) hi
  refine pure_enterJ Tryz.func41 rfl (by simp) (fun C hC => ?_)
  refine CodeJ.seqI (CodeJ.regionI (OpsJ.go ?_))
  simp
  refine CodeJ.frz 0 rfl (by simp) ?_
  simp [frzS, tset]
  refine CodeJ.go ?_
  simp
  refine ⟨fun k1 => ?_, fun k1 => ⟨fun k2 => ?_, fun k2 => ⟨fun k3 => ?_, fun k3 => ⟨fun k4 => ?_, fun k4 => ?_⟩⟩⟩⟩
  · have kp : keptP c v ↔ v.Nodup := by unfold keptP; rw [if_pos k1]
    refine CodeJ.loop (ι := Nat) (fun i => ⟨175, [(1, .ro (v.map iv)), (2, .rop (conV c) 0), (5, iv i)], []⟩)
      (fun i => i ≤ v.length ∧ (v.take i).Nodup) (fun i => v.length - i) 0 ?_ ?_ ?_
    · simp
    · simp [leS, hC]
    rintro i ⟨hi, hd⟩
    by_cases hlt : i < v.length
    · have g := rIn_ok (v.take i) (by simp; omega) (gt v i)
      have nt := nodup_take hlt
      have ne : ¬ (v.take (i + 1)).Nodup → ¬ v.Nodup := fun h1 h2 => h1 (h2.sublist (List.take_sublist _ _))
      rw [List.map_take] at g
      simp (disch := omega) [hlt]
      repeat (refine And.intro (by omega) ?_)
      refine CodeJ.draw (.qs [0, 1, 2, 3, 4, 5, 6] <| .l 7 [] <| .qs [8] <| .nil) (by kernel_rfl) (by kernel_rfl) (by simp) ?_
      simp (disch := omega) [hlt, lv i hlt]
      repeat (refine And.intro (by omega) ?_)
      refine callS (g) (by simp) ?_
      simp
      refine ⟨fun q => ?_, fun q => ?_⟩
      · exact tb_mk (by rw [kp]; exact ⟨fun h => (by cases h), fun h => absurd h (ne fun h' => (nt.1 h').2 q)⟩)
      · exact ⟨i + 1, ⟨by omega, nt.2 ⟨hd, q⟩⟩, by omega, by simp (disch := omega) [leS, hC, w64]⟩
    · obtain rfl : i = v.length := by omega
      rw [List.take_length] at hd
      simp
      exact tb_mk ⟨fun _ => kp.2 hd, fun _ => rfl⟩
  · have kp : keptP c v ↔ dotN c v v.length = c.limit := by unfold keptP; rw [if_neg (by omega), if_pos k2]
    have n2 := hc.k2 k2
    have nb : ∀ i, i < v.length → Bd8 (gt c.nums i) ∧ Bd8 (gt v i) := fun i hi => ⟨hc.nu i (by omega), ha i hi⟩
    refine CodeJ.loop (ι := Nat) (fun i => ⟨175, [(1, .ro (v.map iv)), (2, .rop (conV c) 0), (7, iv (dotN c v i)), (8, iv i)], []⟩)
      (fun i => i ≤ v.length) (fun i => v.length - i) 0 (by omega) ?_ ?_
    · simp [leS, hC, dotN, sumN]
    rintro i hi
    by_cases hlt : i < v.length
    · have l1 := ln i (by omega)
      have l2 := lv i (by omega)
      have b1 := mul_bd (nb i (by omega)).1 (nb i (by omega)).2
      have b2 := dotN_bd nb i (by omega)
      have b3 : i < c.nums.length := by omega
      have e : dotN c v (i + 1) = dotN c v i + gt c.nums i * gt v i := rfl
      simp (disch := omega) [hlt]
      repeat (refine And.intro (by omega) ?_)
      refine CodeJ.draw (.qs [0, 1, 2, 3, 4, 5, 6, 7, 8, 9, 10, 11, 12] <| .nil) (by kernel_rfl) (by kernel_rfl) (by simp) ?_
      simp (disch := omega) [hlt, l1, l2, b3, w64]
      repeat (refine And.intro (by omega) ?_)
      exact ⟨i + 1, by omega, by omega, by simp (disch := omega) [leS, hC, w64, e]⟩
    · obtain rfl : i = v.length := by omega
      simp
      refine tb_mk ?_
      rw [decide_eq_true_eq, kp]
  · have kp : keptP c v ↔ v ∈ c.rows := by unfold keptP; rw [if_neg (by omega), if_neg (by omega), if_pos k3]
    have r1 := hf.r
    refine CodeJ.loop (ι := Nat) (fun i => ⟨175, [(1, .ro (v.map iv)), (2, .rop (conV c) 0), (9, iv i)], []⟩)
      (fun i => i ≤ c.rows.length ∧ ∀ j, j < i → gt c.rows j ≠ v) (fun i => c.rows.length - i) 0 ?_ ?_ ?_
    · exact ⟨by omega, fun j hj => by omega⟩
    · simp [leS, hC]
    rintro i ⟨hi, hd⟩
    by_cases hlt : i < c.rows.length
    · have lr := lget_ilv hlt
      have hr := hc.k3 k3 _ (gt_mem hlt)
      have hm := gt_mem hlt
      have st := @step_lt (fun j => gt c.rows j ≠ v) i hd
      generalize gt c.rows i = r at *
      simp (disch := omega) [hlt]
      repeat (refine And.intro (by omega) ?_)
      refine CodeJ.loop (ι := Nat × Bool) (fun ⟨k, b⟩ => ⟨175, [(1, .ro (v.map iv)), (2, .rop (conV c) 0), (9, iv i), (10, bov b), (11, iv k)], []⟩)
        (fun ⟨k, b⟩ => k ≤ v.length ∧ (b = true ↔ ∀ j, j < k → gt r j = gt v j)) (fun ⟨k, b⟩ => v.length - k) (0, true) ?_ ?_ ?_
      · exact ⟨by omega, fun _ j hj => by omega, fun _ => rfl⟩
      · simp [leS, hC]
      rintro ⟨k, b⟩ ⟨hk, hb⟩
      by_cases hkl : k < v.length
      · have l1 := lv k hkl
        have l2 := lget_iv (l := r) (i := k) (by omega)
        have b3 : k < r.length := by omega
        simp (disch := omega) [hkl, -Bool.exists_bool]
        repeat (refine And.intro (by omega) ?_)
        refine CodeJ.draw (.qs [0, 1, 2, 3, 4, 5, 6, 7, 8, 9, 10, 11, 12, 13, 14, 15, 16] <| .nil) (by kernel_rfl) (by kernel_rfl) (by simp) ?_
        cases b with
        | true =>
          have hb' := hb.1 rfl
          simp (disch := omega) [hlt, hkl, l1, l2, b3, lr, -Bool.exists_bool]
          repeat (refine And.intro (by omega) ?_)
          refine ⟨k + 1, decide (gt r k = gt v k), ⟨by omega, ?_⟩, by omega, by simp (disch := omega) [leS, hC, w64]⟩
          rw [decide_eq_true_eq]
          exact ⟨fun q => step_lt hb' q, fun q => q k (by omega)⟩
        | false =>
          have hb' : ¬ ∀ j, j < k → gt r j = gt v j := fun q => by have := hb.2 q; cases this
          simp (disch := omega) [hlt, hkl, l1, l2, b3, lr, -Bool.exists_bool]
          repeat (refine And.intro (by omega) ?_)
          exact ⟨k + 1, false, ⟨by omega, ⟨fun q => (by cases q), fun q => absurd (fun j hj => q j (by omega)) hb'⟩⟩, by omega, by simp (disch := omega) [leS, hC, w64]⟩
      · obtain rfl : k = v.length := by omega
        simp
        refine ⟨fun q => ?_, fun q => ?_⟩
        · have e : r = v := ext_gt' (by omega) fun j hj => hb.1 q j (by omega)
          exact tb_mk ⟨fun _ => kp.2 (e ▸ hm), fun _ => rfl⟩
        · refine ⟨i + 1, ⟨by omega, st fun e => ?_⟩, by omega, by simp (disch := omega) [leS, hC, w64]⟩
          subst e
          rw [hb.2 fun j _ => rfl] at q; cases q
    · obtain rfl : i = c.rows.length := by omega
      simp
      refine tb_mk ?_
      rw [kp]
      refine ⟨fun h => (by cases h), fun h => ?_⟩
      obtain ⟨j, hj, e⟩ := List.getElem_of_mem h
      rw [gt_get hj] at e
      exact absurd e (hd j hj)
  · have kp : keptP c v ↔ (0 ≤ gt v 0 ∧ gt v 0 < (v.length : Int) - 2 ∧ gt v (2 + (gt v 0).toNat) = gt v 1) := by unfold keptP; rw [if_neg (by omega), if_neg (by omega), if_neg (by omega), if_pos k4]
    have n4 := hc.k4 k4
    have l0 := lv 0 (by omega)
    have l1 := lv 1 (by omega)
    have b0 := ha 0 (by omega)
    unfold Bd8 at b0
    have e0 : 0 < v.length := by omega
    have e1 : 1 < v.length := by omega
    refine CodeJ.draw (.qs [0, 1, 2, 3, 4, 5, 6, 7, 8, 9, 10, 11, 12, 13, 14, 15, 16, 17, 18, 19, 20, 21, 22, 23, 24, 25, 26] <| .nil) (by kernel_rfl) (by kernel_rfl) (by simp) ?_
    by_cases q1 : 0 ≤ gt v 0
    · by_cases q2 : gt v 0 < (v.length : Int) - 2
      · have l2 := lv (2 + (gt v 0).toNat) (by omega)
        have e8 : (2 + gt v 0).toNat = 2 + (gt v 0).toNat := by omega
        simp (disch := omega) [q1, q2, l0, l1, l2, w64, e8, e0, e1]
        repeat (refine And.intro (by omega) ?_)
        exact tb_mk (by rw [kp, decide_eq_true_eq]; exact ⟨fun h => ⟨q1, q2, h⟩, fun h => h.2.2⟩)
      · simp (disch := omega) [q1, q2, l0, l1, w64, e0, e1]
        repeat (refine And.intro (by omega) ?_)
        exact tb_mk (by rw [kp]; exact ⟨fun h => (by cases h), fun h => absurd h.2.1 q2⟩)
    · simp (disch := omega) [q1, l0, l1, w64, e0, e1]
      repeat (refine And.intro (by omega) ?_)
      exact tb_mk (by rw [kp]; exact ⟨fun h => (by cases h), fun h => absurd h.1 q1⟩)
  · have k5 : c.kind = 5 := by have := hc.kd; omega
    have kp : keptP c v ↔ ∀ i, i < v.length → 0 < gt c.nums i → useV c v (gt v i) v.length ≤ c.limit := by
      rw [← shared_iff hc k5 al]
      unfold keptP; rw [if_neg (by omega), if_neg (by omega), if_neg (by omega), if_neg (by omega)]
    obtain ⟨n5, u5, p5⟩ := hc.k5 k5
    have ub : ∀ i, i < v.length → 0 ≤ gt c.uses i ∧ gt c.uses i ≤ 100000000 := fun i hi => ⟨(p5 i (by omega)).2, (hc.us i (by omega)).2⟩
    refine CodeJ.loop (ι := Nat) (fun i => ⟨175, [(1, .ro (v.map iv)), (2, .rop (conV c) 0), (12, iv i)], []⟩)
      (fun i => i ≤ v.length ∧ ∀ j, j < i → 0 < gt c.nums j → useV c v (gt v j) v.length ≤ c.limit) (fun i => v.length - i) 0 ?_ ?_ ?_
    · exact ⟨by omega, fun j hj => by omega⟩
    · simp [leS, hC]
    rintro i ⟨hi, hd⟩
    by_cases hlt : i < v.length
    · have l1 := lv i hlt
      have l2 := ln i (by omega)
      have bi := ha i hlt
      have st := @step_lt (fun j => 0 < gt c.nums j → useV c v (gt v j) v.length ≤ c.limit) i hd
      have b1 : i < c.nums.length := by omega
      simp (disch := omega) [hlt]
      repeat (refine And.intro (by omega) ?_)
      refine CodeJ.loop (ι := Nat) (fun k => ⟨175, [(1, .ro (v.map iv)), (2, .rop (conV c) 0), (12, iv i), (13, iv (useV c v (gt v i) k)), (14, iv k)], []⟩)
        (fun k => k ≤ v.length) (fun k => v.length - k) 0 (by omega) ?_ ?_
      · simp [leS, hC, useV, sumN]
      rintro k hk
      by_cases hkl : k < v.length
      · have l4 := lv k hkl
        have l5 := ln k (by omega)
        have l6 := lu k (by omega)
        have b3 : k < c.nums.length := by omega
        have b4 : k < c.uses.length := by omega
        have bk := ha k hkl
        have bn := hc.nu k b3
        have bu := useV_bd (c := c) (v := v) (m := gt v i) ub k (by omega)
        have bq := ub k hkl
        have e : useV c v (gt v i) (k + 1) = useV c v (gt v i) k + if gt v k ≤ gt v i ∧ gt v i < gt v k + gt c.nums k then gt c.uses k else 0 := rfl
        unfold Bd8 at bk
        simp (disch := omega) [hkl]
        repeat (refine And.intro (by omega) ?_)
        refine CodeJ.draw (.qs [0, 1, 2, 3, 4, 5, 6, 7, 8, 9, 10, 11, 12, 13, 14, 15, 16, 17, 18, 19, 20, 21, 22, 23, 24, 25] <| .nil) (by kernel_rfl) (by kernel_rfl) (by simp) ?_
        simp (disch := omega) [hkl, hlt, l1, l4, l5, l6, b3, b4, w64]
        repeat (refine And.intro (by omega) ?_)
        refine ⟨fun z3 => ⟨fun z4 => ?_, fun z4 => ?_⟩, fun z3 => ?_⟩
        · rw [if_pos ⟨z3, z4⟩] at e
          exact ⟨k + 1, by omega, by omega, by simp (disch := omega) [leS, hC, w64, e]⟩
        · rw [if_neg (by omega)] at e
          exact ⟨k + 1, by omega, by omega, by simp (disch := omega) [leS, hC, w64, e]⟩
        · rw [if_neg (by omega)] at e
          exact ⟨k + 1, by omega, by omega, by simp (disch := omega) [leS, hC, w64, e]⟩
      · obtain rfl : k = v.length := by omega
        simp (disch := omega) [l2, b1]
        repeat (refine And.intro (by omega) ?_)
        refine ⟨fun z2 => ⟨fun z3 => ?_, fun z3 => ?_⟩, fun z2 => ?_⟩
        · exact tb_mk (by rw [kp]; exact ⟨fun h => (by cases h), fun h => absurd (h i hlt z2) (by omega)⟩)
        · exact ⟨i + 1, ⟨by omega, st fun _ => z3⟩, by omega, by simp (disch := omega) [leS, hC, w64]⟩
        · exact ⟨i + 1, ⟨by omega, st fun h => absurd h (by omega)⟩, by omega, by simp (disch := omega) [leS, hC, w64]⟩
    · obtain rfl : i = v.length := by omega
      simp
      exact tb_mk ⟨fun _ => kp.2 hd, fun _ => rfl⟩
end Go.Proofs

