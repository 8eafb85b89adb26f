/- What a constraint lets stand: the document's ways of asking. A text of the prover's own. -/
import Derived.Test.YtadkomdooleipaaDoorMAo
import Derived.Test.YtadkomdooleipaaDoorMAg
namespace Go.Fn
open Go Go.Sv Go.Pl Go.Proofs Go.Tb Go.Ut
/-- lists of which may be asked -/
structure LOK (n : Nat) (L : Lf) : Prop where
  len : L.length = n
  n6 : n ≤ 6
  ne : NE L
  asc : AscL L
  l12 : ∀ k, k < n → (gt L k).length ≤ 12
  bd : ∀ k, k < n → ∀ v ∈ gt L k, Bd8 v
section
variable {n : Nat} {c : Con} {L : Lf}
theorem LOK.at (h : LOK n L) (hc : ConOK n c) {k : Nat} (hk : k < c.vars.length) : lget (L.map ilv) (gt c.vars k).toNat = ilv (lk c L k) ∧ (lk c L k).length ≤ 12 ∧ 0 < (lk c L k).length ∧ (gt c.vars k).toNat < L.length ∧ (0 ≤ gt c.vars k ∧ gt c.vars k < L.length) ∧ ∀ v ∈ lk c L k, Bd8 v := by
  have h1 := hc.va k hk
  have h2 := hc.at hk
  have hl := h.len
  exact ⟨lget_ilv (by omega), h.l12 _ h2, List.length_pos_iff.2 (h.ne _ (by omega)), by omega, by omega, h.bd _ h2⟩
theorem low_bd {l : List Int} (h : ∀ v ∈ l, Bd8 v) (hp : 0 < l.length) : Bd8 (low l) ∧ Bd8 (high l) := ⟨h _ (gt_mem hp), h _ (gt_mem (by omega))⟩
theorem useS_bd {m : Int} {i : Nat} (h : ∀ k, k < c.vars.length → 0 ≤ gt c.uses k ∧ gt c.uses k ≤ 100000000) : ∀ k, k ≤ c.vars.length → 0 ≤ useS c L i m k ∧ useS c L i m k ≤ 100000000 * k
  | 0, _ => by simp [useS, sumN]
  | k + 1, hk => by
    have := useS_bd (m := m) (i := i) h k (by omega)
    have := h k (by omega)
    simp only [useS, sumN] at *
    split <;> omega
def PlN (c : Con) (L : Lf) (v a : Int) : Prop := ¬ (0 ≤ a ∧ a < (c.vars.length : Int) - 2 ∧ v ∈ lk c L (2 + a.toNat))
end
end Go.Fn
namespace Go.Proofs
open Go.Sv Go Go.Tb Go.Pl Go.Ut Go.Fn
set_option maxRecDepth 10000 in
theorem rMeets_ok (a b : List Int) (ha : a.length ≤ 1000000) (hb : b.length ≤ 1000000) : PureC Tryd.prog 63 [.ro (a.map iv), .ro (b.map iv)] (TB (∃ w ∈ a, w ∈ b)) := by
  refine pure_enter Tryd.func63 rfl (by simp) (fun C hC => ?_)
  simp
  refine CodeJ.loop (ι := Nat) (fun i => ⟨20, [(0, .ro (a.map iv)), (1, .ro (b.map iv)), (5, iv i)], []⟩)
    (fun i => i ≤ a.length ∧ ∀ j, j < i → gt a j ∉ b) (fun i => a.length - i) 0 ?_ ?_ ?_
  · exact ⟨by omega, fun j hj => by omega⟩
  · simp [leS, hC]
  rintro i ⟨hi, hf⟩
  by_cases hlt : i < a.length
  · have lv := lget_iv hlt
    have g := rIn_ok b hb (gt a i)
    simp (disch := omega) [hlt, lv]
    repeat (refine And.intro (by omega) ?_)
    refine callS (g) (by simp) ?_
    simp
    refine ⟨fun q => ?_, fun q => ?_⟩
    · exact tb_mk ⟨fun _ => ⟨_, gt_mem hlt, q⟩, fun _ => rfl⟩
    · exact ⟨i + 1, ⟨by omega, step_lt hf q⟩, by omega, by simp (disch := omega) [leS, hC, w64]⟩
  · obtain rfl : i = a.length := by omega
    simp
    refine tb_mk ⟨fun h => (by cases h), fun ⟨w, h1, h2⟩ => ?_⟩
    obtain ⟨j, hj, rfl⟩ := mem_gt h1
    exact absurd h2 (hf j hj)
set_option maxRecDepth 10000 in
set_option maxHeartbeats 1000000 in
theorem rPlaced_ok {n : Nat} {c : Con} (hc : ConOK n c) (h4 : c.kind = 4) {L : Lf} (hL : LOK n L) (i : Nat) (hi : i < c.vars.length) (v : Int) (hv : Bd8 v) : PureC Tryd.prog 55 [conV c, .ro (L.map ilv), iv i, iv v] (TB (PlcM c L i v)) := by
  have l2 := hc.k4 h4
  have h8 := hc.vl
  have la := fun (k : Nat) (hk : k < c.vars.length) => hL.at hc hk
  obtain ⟨a1, a2, a3, a4, a5, a6⟩ := la 0 (by omega)
  obtain ⟨b1, b2, b3, b4, b5, b6⟩ := la 1 (by omega)
  have v0 := lget_iv (l := c.vars) (i := 0) (by omega)
  have v1 := lget_iv (l := c.vars) (i := 1) (by omega)
  have e0 : 0 < c.vars.length := by omega
  have e1 : 1 < c.vars.length := by omega
  unfold Bd8 at hv
  refine pure_enterJ Tryd.func55 rfl (by simp) (fun C hC => ?_)
  refine CodeJ.seqI (CodeJ.regionI (OpsJ.go ?_))
  simp
  refine CodeJ.frz 0 rfl (by simp) ?_
  simp [frzS, tset]
  refine CodeJ.go ?_
  simp (disch := omega) [v0, v1, e0, e1, a1, b1, w64]
  repeat (refine And.intro (by omega) ?_)
  refine ⟨fun i0 => ?_, fun i0 => ⟨fun i1 => ?_, fun i1 => ?_⟩⟩
  · subst i0
    have pm : PlcM c L 0 v ↔ 0 ≤ v ∧ v < (c.vars.length : Int) - 2 ∧ ∃ w ∈ lk c L (2 + v.toNat), w ∈ lk c L 1 := by unfold PlcM; rw [if_pos rfl]
    by_cases q1 : v < 0
    · have q1' : ¬ 0 ≤ v := by omega
      simp [q1, q1']
      exact tb_mk ⟨fun h => (by cases h), fun h => absurd (pm.1 h).1 (by omega)⟩
    by_cases q2 : (c.vars.length : Int) - 2 ≤ v
    · have q1' : 0 ≤ v := by omega
      have q2' : ¬ v < (c.vars.length : Int) - 2 := by omega
      simp [q1, q1', q2, q2']
      exact tb_mk ⟨fun h => (by cases h), fun h => absurd (pm.1 h).2.1 (by omega)⟩
    obtain ⟨d1, d2, d3, d4, d5, d6⟩ := la (2 + v.toNat) (by omega)
    have vk := lget_iv (l := c.vars) (i := 2 + v.toNat) (by omega)
    have e8 : (2 + v).toNat = 2 + v.toNat := by omega
    have q1' : 0 ≤ v := by omega
    have q2' : v < (c.vars.length : Int) - 2 := by omega
    simp (disch := omega) [q1, q1', q2, q2', e8, vk, d1, d5]
    repeat (refine And.intro (by omega) ?_)
    refine callP (rMeets_ok _ _ (by omega) (by omega)) (SubL_self _ _ (by simp)) (fun y hy => ?_)
    obtain ⟨b, rfl, hb⟩ := hy
    simp
    exact tb_mk (hb.trans ⟨fun h => pm.2 ⟨q1', q2', h⟩, fun h => (pm.1 h).2.2⟩)
  · obtain rfl : i = 1 := by omega
    have pm : PlcM c L 1 v ↔ ∃ a ∈ lk c L 0, 0 ≤ a ∧ a < (c.vars.length : Int) - 2 ∧ v ∈ lk c L (2 + a.toNat) := by unfold PlcM; rw [if_neg (by omega), if_pos rfl]
    refine CodeJ.loop (ι := Nat) (fun k => ⟨102, [(4, .rop (conV c) 0), (1, .ro (L.map ilv)), (3, iv v), (9, ilv (lk c L 0)), (11, iv ((c.vars.length : Int) - 2)), (12, iv k)], []⟩)
      (fun k => k ≤ (lk c L 0).length ∧ ∀ j, j < k → PlN c L v (gt (lk c L 0) j)) (fun k => (lk c L 0).length - k) 0 ?_ ?_ ?_
    · exact ⟨by omega, fun j hj => by omega⟩
    · simp [leS, hC]
    rintro k ⟨hk, hf⟩
    by_cases hkl : k < (lk c L 0).length
    · have lv := lget_iv hkl
      have hm := gt_mem hkl
      have hb := a6 _ hm
      unfold Bd8 at hb
      have st := @step_lt (fun j => PlN c L v (gt (lk c L 0) j)) k hf
      generalize gt (lk c L 0) k = a at *
      by_cases q : 0 ≤ a ∧ a < (c.vars.length : Int) - 2
      · obtain ⟨q1, q2⟩ := q
        have q1' : ¬ a < 0 := by omega
        have q2' : ¬ (c.vars.length : Int) - 2 ≤ a := by omega
        obtain ⟨d1, d2, d3, d4, d5, d6⟩ := la (2 + a.toNat) (by omega)
        have vk := lget_iv (l := c.vars) (i := 2 + a.toNat) (by omega)
        have e8 : (2 + a).toNat = 2 + a.toNat := by omega
        have g := rIn_ok (lk c L (2 + a.toNat)) (by omega) v
        simp (disch := omega) [hkl, lv, q1, q2, q1', q2', w64]
        repeat (refine And.intro (by omega) ?_)
        refine CodeJ.draw (.qs [0, 1, 2, 3, 4, 5, 6, 7, 8, 9, 10, 11, 12] <| .l 13 [] <| .qs [14] <| .nil) (by kernel_rfl) (by kernel_rfl) (by simp) ?_
        simp (disch := omega) [hkl, lv, e8, vk, d1, d5, w64]
        repeat (refine And.intro (by omega) ?_)
        refine callS (g) (by simp) ?_
        simp
        refine ⟨fun q => ?_, fun q => ?_⟩
        · exact tb_mk ⟨fun _ => pm.2 ⟨a, hm, q1, q2, q⟩, fun _ => rfl⟩
        · exact ⟨k + 1, ⟨by omega, st fun h => q h.2.2⟩, by omega, by simp (disch := omega) [leS, hC, w64]⟩
      · have st' := st fun h => q ⟨h.1, h.2.1⟩
        by_cases q1 : a < 0
        · have q1' : ¬ 0 ≤ a := by omega
          simp (disch := omega) [hkl, lv, q1, q1', w64]
          repeat (refine And.intro (by omega) ?_)
          exact ⟨k + 1, ⟨by omega, st'⟩, by omega, by simp (disch := omega) [leS, hC, w64]⟩
        · have q1' : 0 ≤ a := by omega
          have q2 : (c.vars.length : Int) - 2 ≤ a := by omega
          have q2' : ¬ a < (c.vars.length : Int) - 2 := by omega
          simp (disch := omega) [hkl, lv, q1, q1', q2, q2', w64]
          repeat (refine And.intro (by omega) ?_)
          exact ⟨k + 1, ⟨by omega, st'⟩, by omega, by simp (disch := omega) [leS, hC, w64]⟩
    · obtain rfl : k = (lk c L 0).length := by omega
      simp
      refine tb_mk ⟨fun h => (by cases h), fun h => ?_⟩
      obtain ⟨a, h1, h2, h3, h5⟩ := pm.1 h
      obtain ⟨j, hj, rfl⟩ := mem_gt h1
      exact absurd ⟨h2, h3, h5⟩ (hf j hj)
  · have i2 : 2 ≤ i := by omega
    have pm : PlcM c L i v ↔ (lk c L 0 = [(i : Int) - 2] → v ∈ lk c L 1) := by unfold PlcM; rw [if_neg (by omega), if_neg (by omega)]
    have l0 := lget_iv (l := lk c L 0) (i := 0) a3
    have g := rIn_ok (lk c L 1) (by omega) v
    by_cases q : (lk c L 0).length = 1
    · have q' : ((lk c L 0).length : Int) = 1 := by omega
      have e : lk c L 0 = [gt (lk c L 0) 0] := one_of q
      simp (disch := omega) [q, q', l0, w64]
      repeat (refine And.intro (by omega) ?_)
      refine ⟨fun z => ?_, fun z => ?_⟩
      · refine callS (g) (by simp) ?_
        simp
        exact tb_mk (by rw [pm, decide_eq_true_eq]; exact ⟨fun h _ => h, fun h => h (by rw [e, z])⟩)
      · exact tb_mk ⟨fun _ => pm.2 fun h => absurd (by rw [h]; rfl) z, fun _ => rfl⟩
    · have q' : ¬ ((lk c L 0).length : Int) = 1 := by omega
      simp [q']
      exact tb_mk ⟨fun _ => pm.2 fun h => absurd (by rw [h]; rfl) q, fun _ => rfl⟩
end Go.Proofs

