/- What a constraint lets stand: the document's ways of asking tables and shares. What a constraint lets stand: the document's way of asking shares. A text of the prover's own. -/
import Derived.Test.YtadkomdooleipaaDoorMAt
namespace Go.Fn
open Go Go.Sv Go.Pl Go.Proofs Go.Tb Go.Ut
def RwT (c : Con) (r : List Int) (k t : Nat) : Prop := ∀ t', t' < t → gt c.vars t' = gt c.vars k → gt r t' = gt r k
def RwP (c : Con) (L : Lf) (i : Nat) (v : Int) (r : List Int) (k : Nat) : Prop := gt r i = v ∧ ∀ k', k' < k → gt r k' ∈ lk c L k' ∧ RwT c r k' k'
theorem rwP_succ {c : Con} {L : Lf} {i : Nat} {v : Int} {r : List Int} {k : Nat} : RwP c L i v r (k + 1) ↔ (RwP c L i v r k ∧ gt r k ∈ lk c L k) ∧ RwT c r k k := by
  constructor
  · rintro ⟨h1, h2⟩
    exact ⟨⟨⟨h1, fun k' hk => h2 k' (by omega)⟩, (h2 k (by omega)).1⟩, (h2 k (by omega)).2⟩
  · rintro ⟨⟨⟨h1, h2⟩, h3⟩, h4⟩
    refine ⟨h1, fun k' hk => ?_⟩
    by_cases e : k' = k
    · subst e; exact ⟨h3, h4⟩
    · exact h2 k' (by omega)
theorem rwT_succ {c : Con} {r : List Int} {k t : Nat} : RwT c r k (t + 1) ↔ RwT c r k t ∧ (gt c.vars t = gt c.vars k → gt r t = gt r k) := by
  constructor
  · exact fun h => ⟨fun t' ht => h t' (by omega), h t (by omega)⟩
  · rintro ⟨h1, h2⟩ t' ht
    by_cases e : t' = t
    · subst e; exact h2
    · exact h1 t' (by omega)
theorem rowM_P {c : Con} {L : Lf} {i : Nat} {v : Int} : RowM c L i v ↔ ∃ r ∈ c.rows, RwP c L i v r c.vars.length := Iff.rfl
end Go.Fn
namespace Go.Proofs
open Go.Sv Go Go.Tb Go.Pl Go.Ut Go.Fn
set_option maxRecDepth 10000 in
set_option maxHeartbeats 1000000 in
theorem rRowed_ok {n : Nat} {c : Con} (hc : ConOK n c) (hf : FewC c) (h3 : c.kind = 3) {L : Lf} (hL : LOK n L) (i : Nat) (hi : i < c.vars.length) (v : Int) : PureC Tryd.prog 54 [conV c, .ro (L.map ilv), iv i, iv v] (TB (RowM c L i v)) := by
  have h8 := hc.vl
  have hr := hf.r
  have la := fun (k : Nat) (hk : k < c.vars.length) => hL.at hc hk
  have lv := fun (k : Nat) (hk : k < c.vars.length) => lget_iv (l := c.vars) hk
  refine pure_enterJ Tryd.func54 rfl (by simp) (fun C hC => ?_)
  refine CodeJ.seqI (CodeJ.regionI (OpsJ.go ?_))
  simp
  refine CodeJ.frz 0 rfl (by simp) ?_
  simp [frzS, tset]
  refine CodeJ.go ?_
  simp
  refine CodeJ.loop (ι := Nat) (fun q => ⟨98, [(1, .ro (L.map ilv)), (2, iv i), (3, iv v), (4, .rop (conV c) 0), (9, iv q)], []⟩)
    (fun q => q ≤ c.rows.length ∧ ∀ j, j < q → ¬ RwP c L i v (gt c.rows j) c.vars.length) (fun q => c.rows.length - q) 0 ?_ ?_ ?_
  · exact ⟨by omega, fun j hj => by omega⟩
  · simp [leS, hC]
  rintro q ⟨hq, hd⟩
  by_cases hlt : q < c.rows.length
  · have lr := lget_ilv hlt
    have hm := gt_mem hlt
    have rl := hc.k3 h3 _ hm
    have st := @step_lt (fun j => ¬ RwP c L i v (gt c.rows j) c.vars.length) q hd
    generalize gt c.rows q = r at *
    have lk' := fun (k : Nat) (hk : k < c.vars.length) => lget_iv (l := r) (i := k) (by omega)
    have ri := lk' i hi
    have hir : i < r.length := by omega
    simp (disch := omega) [hlt, lr, ri, hir]
    repeat (refine And.intro (by omega) ?_)
    refine CodeJ.loop (ι := Nat × Bool) (fun ⟨k, b⟩ => ⟨98, [(1, .ro (L.map ilv)), (2, iv i), (3, iv v), (4, .rop (conV c) 0), (9, iv q), (10, bov b), (11, iv k)], []⟩)
      (fun ⟨k, b⟩ => k ≤ c.vars.length ∧ (b = true ↔ RwP c L i v r k)) (fun ⟨k, b⟩ => c.vars.length - k) (0, decide (gt r i = v)) ?_ ?_ ?_
    · refine ⟨by omega, ?_⟩
      rw [decide_eq_true_eq]
      exact ⟨fun e => ⟨e, fun k hk => by omega⟩, fun h => h.1⟩
    · simp [leS, hC]
    rintro ⟨k, b⟩ ⟨hk, hb⟩
    by_cases hkl : k < c.vars.length
    · obtain ⟨d1, d2, d3, d4, d5, d6⟩ := la k hkl
      have vk := lv k hkl
      have rk := lk' k hkl
      have hkr : k < r.length := by omega
      have g := rIn_ok (lk c L k) (by omega) (gt r k)
      simp (disch := omega) [hkl, -Bool.exists_bool]
      repeat (refine And.intro (by omega) ?_)
      refine CodeJ.draw (.qs [0, 1, 2, 3, 4, 5, 6, 7, 8, 9, 10, 11, 12, 13, 14, 15] <| .l 16 [] <| .qs [17] <| .nil) (by kernel_rfl) (by kernel_rfl) (by simp) ?_
      simp (disch := omega) [hlt, hkl, vk, d1, d5, lr, rk, hkr, -Bool.exists_bool]
      repeat (refine And.intro (by omega) ?_)
      refine callS (g) (by simp) ?_
      obtain ⟨b1, hb1⟩ : ∃ b1 : Bool, b1 = decide (gt r k ∈ lk c L k) := ⟨_, rfl⟩
      have hb1' : b1 = true ↔ gt r k ∈ lk c L k := by rw [hb1, decide_eq_true_eq]
      rw [← hb1]
      obtain ⟨b2, hb2⟩ : ∃ b2 : Bool, b2 = (b && b1) := ⟨_, rfl⟩
      have hb2' : b2 = true ↔ RwP c L i v r k ∧ gt r k ∈ lk c L k := by rw [hb2, Bool.and_eq_true, hb, hb1']
      cases b <;> simp [-Bool.exists_bool]
      all_goals
        refine CodeJ.loop (ι := Nat × Bool) (fun ⟨t, b⟩ => ⟨98, [(1, .ro (L.map ilv)), (2, iv i), (3, iv v), (4, .rop (conV c) 0), (9, iv q), (10, bov b), (11, iv k), (13, iv t)], []⟩)
          (fun ⟨t, b⟩ => t ≤ k ∧ (b = true ↔ (RwP c L i v r k ∧ gt r k ∈ lk c L k) ∧ RwT c r k t)) (fun ⟨t, b⟩ => k - t) (0, b2) ?_ ?_ ?_
        · exact ⟨by omega, hb2'.trans ⟨fun h => ⟨h, fun t ht => by omega⟩, fun h => h.1⟩⟩
        · simp [leS, hC, hb2]
        rintro ⟨t, b⟩ ⟨ht, hbt⟩
        by_cases htl : t < k
        · have vt := lv t (by omega)
          have rt := lk' t (by omega)
          have e1 : t < c.vars.length := by omega
          have e2 : t < r.length := by omega
          have sc := @rwT_succ c r k t
          simp (disch := omega) [htl, -Bool.exists_bool]
          repeat (refine And.intro (by omega) ?_)
          refine CodeJ.draw (.qs [0, 1, 2, 3, 4, 5, 6, 7, 8, 9, 10, 11, 12, 13, 14, 15, 16, 17, 18, 19, 20, 21, 22, 23, 24, 25, 26, 27, 28, 29, 30, 31, 32, 33] <| .nil) (by kernel_rfl) (by kernel_rfl) (by simp) ?_
          cases b with
          | true =>
            have hbt' := hbt.1 rfl
            by_cases e : gt c.vars t = gt c.vars k
            · simp (disch := omega) [hlt, hkl, e1, e2, vt, vk, rt, rk, lr, hkr, e, -Bool.exists_bool]
              repeat (refine And.intro (by omega) ?_)
              refine ⟨t + 1, decide (gt r t = gt r k), ⟨by omega, ?_⟩, by omega, by simp (disch := omega) [leS, hC, w64]⟩
              rw [decide_eq_true_eq, sc]
              exact ⟨fun z => ⟨hbt'.1, hbt'.2, fun _ => z⟩, fun z => z.2.2 e⟩
            · simp (disch := omega) [hlt, hkl, e1, e2, vt, vk, rt, rk, lr, hkr, e, -Bool.exists_bool]
              repeat (refine And.intro (by omega) ?_)
              exact ⟨t + 1, true, ⟨by omega, ⟨fun _ => ⟨hbt'.1, sc.2 ⟨hbt'.2, fun z => absurd z e⟩⟩, fun _ => rfl⟩⟩, by omega, by simp (disch := omega) [leS, hC, w64]⟩
          | false =>
            simp (disch := omega) [hlt, hkl, e1, e2, vt, vk, rt, rk, lr, hkr, -Bool.exists_bool]
            repeat (refine And.intro (by omega) ?_)
            exact ⟨t + 1, false, ⟨by omega, ⟨fun z => (by cases z), fun z => hbt.2 ⟨z.1, (sc.1 z.2).1⟩⟩⟩, by omega, by simp (disch := omega) [leS, hC, w64]⟩
        · obtain rfl : t = k := by omega
          simp [-Bool.exists_bool]
          exact ⟨t + 1, b, ⟨by omega, hbt.trans rwP_succ.symm⟩, by omega, by simp (disch := omega) [leS, hC, w64]⟩
    · obtain rfl : k = c.vars.length := by omega
      simp
      refine ⟨fun z => ?_, fun z => ?_⟩
      · exact tb_mk ⟨fun _ => rowM_P.2 ⟨r, hm, hb.1 z⟩, fun _ => rfl⟩
      · exact ⟨q + 1, ⟨by omega, st fun h => by rw [hb.2 h] at z; cases z⟩, by omega, by simp (disch := omega) [leS, hC, w64]⟩
  · obtain rfl : q = c.rows.length := by omega
    simp
    refine tb_mk ⟨fun h => (by cases h), fun h => ?_⟩
    obtain ⟨r, hr, h⟩ := rowM_P.1 h
    obtain ⟨j, hj, rfl⟩ := List.getElem_of_mem hr
    rw [gt_get hj] at h
    exact absurd h (hd j hj)
end Go.Proofs
namespace Go.Proofs
open Go.Sv Go Go.Tb Go.Pl Go.Ut Go.Fn
set_option maxRecDepth 10000 in
set_option maxHeartbeats 1000000 in
theorem rShared_ok {n : Nat} {c : Con} (hc : ConOK n c) (h5 : c.kind = 5) {L : Lf} (hL : LOK n L) (i : Nat) (hi : i < c.vars.length) (v : Int) (hv : Bd8 v) : PureC Tryd.prog 56 [conV c, .ro (L.map ilv), iv i, iv v] (TB (ShrM c L i v)) := by
  have h8 := hc.vl
  obtain ⟨n5, u5, p5⟩ := hc.k5 h5
  have ub : ∀ k, k < c.vars.length → 0 ≤ gt c.uses k ∧ gt c.uses k ≤ 100000000 := fun k hk => ⟨(p5 k hk).2, (hc.us k (by omega)).2⟩
  have la := fun (k : Nat) (hk : k < c.vars.length) => hL.at hc hk
  have lv := fun (k : Nat) (hk : k < c.vars.length) => lget_iv (l := c.vars) hk
  have ln := fun (k : Nat) (hk : k < c.vars.length) => lget_iv (l := c.nums) (i := k) (by omega)
  have lu := fun (k : Nat) (hk : k < c.vars.length) => lget_iv (l := c.uses) (i := k) (by omega)
  have n_i := ln i hi
  have u_i := lu i hi
  have en : i < c.nums.length := by omega
  have eu : i < c.uses.length := by omega
  have bn := hc.nu i en
  have bu := ub i hi
  unfold Bd8 at hv
  refine pure_enterJ Tryd.func56 rfl (by simp) (fun C hC => ?_)
  refine CodeJ.seqI (CodeJ.regionI (OpsJ.go ?_))
  simp
  refine CodeJ.frz 0 rfl (by simp) ?_
  simp [frzS, tset]
  refine CodeJ.go ?_
  simp (disch := omega) [n_i, u_i, en, eu]
  repeat (refine And.intro (by omega) ?_)
  by_cases z1 : gt c.nums i = 0
  · simp (disch := omega) [z1]
    repeat (refine And.intro (by omega) ?_)
    exact tb_mk ⟨fun _ => .inl z1, fun _ => rfl⟩
  by_cases z2 : gt c.uses i = 0
  · simp (disch := omega) [z1, z2]
    repeat (refine And.intro (by omega) ?_)
    exact tb_mk ⟨fun _ => .inr (.inl z2), fun _ => rfl⟩
  have sm := @shrM_D c L i v z1 z2
  simp (disch := omega) [z1, z2]
  repeat (refine And.intro (by omega) ?_)
  refine CodeJ.loop (ι := Nat × List Int) (fun ⟨k, w⟩ => ⟨146, [(1, .ro (L.map ilv)), (2, iv i), (3, iv v), (4, .rop (conV c) 0), (9, .view 1 0 w.length), (10, iv k)], [none, some ⟨1, w.map iv, false⟩]⟩)
    (fun ⟨k, w⟩ => k ≤ c.vars.length ∧ w = momD c L i v k ∧ w.length ≤ k + 1) (fun ⟨k, w⟩ => c.vars.length - k) (0, [v]) ?_ ?_ ?_
  · exact ⟨by omega, rfl, by simp⟩
  · simp [leS, hC]
  rintro ⟨k, w⟩ ⟨hk, hw, hwl⟩
  by_cases hkl : k < c.vars.length
  · obtain ⟨d1, d2, d3, d4, d5, d6⟩ := la k hkl
    have vk := lv k hkl
    have hb := low_bd d6 d3
    have lh := lget_iv (l := lk c L k) (i := (lk c L k).length - 1) (by omega)
    have ehi : gt (lk c L k) ((lk c L k).length - 1) = high (lk c L k) := rfl
    rw [ehi] at lh
    have ms : momD c L i v (k + 1) = if k ≠ i ∧ v < high (lk c L k) ∧ high (lk c L k) < v + gt c.nums i then momD c L i v k ++ [high (lk c L k)] else momD c L i v k := rfl
    have hb2 := hb.2
    unfold Bd8 at hb2
    generalize lk c L k = l at *
    generalize high l = hg at *
    have e8 : ((l.length : Int) - 1).toNat = l.length - 1 := by omega
    rw [← hw] at ms
    simp (disch := omega) [hkl, vk, d1, d5, lh, e8, w64, d3]
    repeat (refine And.intro (by omega) ?_)
    by_cases c1 : k = i
    · rw [if_neg (by simp [c1])] at ms
      subst c1
      simp (disch := omega) [w64]
      repeat (refine And.intro (by omega) ?_)
      exact ⟨k + 1, w, ⟨by omega, ms.symm, by omega⟩, by omega, by simp (disch := omega) [leS, hC, w64]⟩
    · have c1' : ¬ (k : Int) = i := by omega
      have stay : ¬ (v < hg ∧ hg < v + gt c.nums i) → w = momD c L i v (k + 1) := fun h => by rw [if_neg (fun h' => h h'.2)] at ms; exact ms.symm
      by_cases c2 : v < hg
      · have c2' : ¬ hg ≤ v := by omega
        by_cases c3 : hg < v + gt c.nums i
        · have c3' : ¬ v + gt c.nums i ≤ hg := by omega
          rw [if_pos ⟨c1, c2, c3⟩] at ms
          simp (disch := omega) [c1, c1', c2, c2', c3, c3', n_i, en, w64]
          repeat (refine And.intro (by omega) ?_)
          exact ⟨⟨by simp [hC], by omega⟩, k + 1, w ++ [hg], ⟨by omega, ms.symm, by simp; omega⟩, by omega, by simp (disch := omega) [leS, hC, w64]⟩
        · have c3' : v + gt c.nums i ≤ hg := by omega
          simp (disch := omega) [c1, c1', c2, c2', c3, c3', n_i, en, w64]
          repeat (refine And.intro (by omega) ?_)
          exact ⟨k + 1, w, ⟨by omega, stay (by omega), by omega⟩, by omega, by simp (disch := omega) [leS, hC, w64]⟩
      · have c2' : hg ≤ v := by omega
        simp (disch := omega) [c1, c1', c2, c2', n_i, en, w64]
        repeat (refine And.intro (by omega) ?_)
        exact ⟨k + 1, w, ⟨by omega, stay (by omega), by omega⟩, by omega, by simp (disch := omega) [leS, hC, w64]⟩
  · obtain rfl : k = c.vars.length := by omega
    rw [← hw] at sm
    simp
    refine CodeJ.frz 1 rfl (by simp) ?_
    simp [frzS, tset]
    refine CodeJ.loop (ι := Nat) (fun t => ⟨146, [(1, .ro (L.map ilv)), (2, iv i), (3, iv v), (4, .rop (conV c) 0), (9, .ro (w.map iv)), (13, iv t)], []⟩)
      (fun t => t ≤ w.length ∧ ∀ j, j < t → gt c.uses i + useS c L i (gt w j) c.vars.length ≤ c.limit) (fun t => w.length - t) 0 ?_ ?_ ?_
    · exact ⟨by omega, fun j hj => by omega⟩
    · simp [leS, hC]
    rintro t ⟨ht, hd⟩
    by_cases htl : t < w.length
    · have lw := lget_iv htl
      have hm := gt_mem htl
      have st := @step_lt (fun j => gt c.uses i + useS c L i (gt w j) c.vars.length ≤ c.limit) t hd
      have no : ¬ gt c.uses i + useS c L i (gt w t) c.vars.length ≤ c.limit → ¬ ShrM c L i v := fun q h => by
        have := List.all_eq_true.1 (sm.2 h) _ hm
        rw [decide_eq_true_eq] at this
        exact q this
      generalize gt w t = m at *
      simp (disch := omega) [htl, u_i, eu]
      repeat (refine And.intro (by omega) ?_)
      refine CodeJ.loop (ι := Nat) (fun k => ⟨146, [(1, .ro (L.map ilv)), (2, iv i), (3, iv v), (4, .rop (conV c) 0), (9, .ro (w.map iv)), (13, iv t), (14, iv (gt c.uses i + useS c L i m k)), (15, iv k)], []⟩)
        (fun k => k ≤ c.vars.length) (fun k => c.vars.length - k) 0 (by omega) ?_ ?_
      · simp [leS, hC, useS, sumN]
      rintro k hk
      by_cases hkl : k < c.vars.length
      · obtain ⟨d1, d2, d3, d4, d5, d6⟩ := la k hkl
        have vk := lv k hkl
        have nk := ln k hkl
        have uk := lu k hkl
        have hb := low_bd d6 d3
        have lh := lget_iv (l := lk c L k) (i := (lk c L k).length - 1) (by omega)
        have ll := lget_iv (l := lk c L k) (i := 0) d3
        have ehi : gt (lk c L k) ((lk c L k).length - 1) = high (lk c L k) := rfl
        have elo : gt (lk c L k) 0 = low (lk c L k) := rfl
        rw [ehi] at lh
        rw [elo] at ll
        have ms : useS c L i m (k + 1) = useS c L i m k + if k ≠ i ∧ high (lk c L k) ≤ m ∧ m < low (lk c L k) + gt c.nums k then gt c.uses k else 0 := rfl
        have bs := useS_bd (c := c) (L := L) (m := m) (i := i) ub k (by omega)
        have bk := ub k hkl
        have bnk := hc.nu k (by omega)
        have ekn : k < c.nums.length := by omega
        have eku : k < c.uses.length := by omega
        obtain ⟨hb1, hb2⟩ := hb
        unfold Bd8 at hb1 hb2
        generalize lk c L k = l at *
        generalize high l = hg at *
        generalize low l = lo at *
        have e8 : ((l.length : Int) - 1).toNat = l.length - 1 := by omega
        simp (disch := omega) [hkl, vk, d1, d5]
        repeat (refine And.intro (by omega) ?_)
        refine CodeJ.draw (.qs [0, 1, 2, 3, 4, 5, 6, 7, 8, 9, 10, 11, 12, 13, 14, 15, 16, 17, 18, 19, 20, 21, 22, 23, 24, 25, 26, 27, 28, 29, 30, 31] <| .nil) (by kernel_rfl) (by kernel_rfl) (by simp) ?_
        by_cases c1 : k = i
        · rw [if_neg (by simp [c1])] at ms
          subst c1
          simp (disch := omega) [hkl, htl, vk, d1, d5, lh, ll, e8, d3, w64, nk, uk, ekn, eku, lw]
          repeat (refine And.intro (by omega) ?_)
          exact ⟨k + 1, by omega, by omega, by simp (disch := omega) [leS, hC, w64, ms]⟩
        · have c1' : ¬ (k : Int) = i := by omega
          have stay : ¬ (hg ≤ m ∧ m < lo + gt c.nums k) → useS c L i m (k + 1) = useS c L i m k := fun h => by rw [if_neg (fun h' => h h'.2)] at ms; omega
          by_cases c2 : hg ≤ m
          · by_cases c3 : m < lo + gt c.nums k
            · have c3' : ¬ lo + gt c.nums k ≤ m := by omega
              rw [if_pos ⟨c1, c2, c3⟩] at ms
              simp (disch := omega) [hkl, htl, vk, d1, d5, lh, ll, e8, d3, w64, nk, uk, ekn, eku, lw, c1, c1', c2, c3, c3']
              repeat (refine And.intro (by omega) ?_)
              exact ⟨k + 1, by omega, by omega, by simp (disch := omega) [leS, hC, w64, ms]; omega⟩
            · have c3' : lo + gt c.nums k ≤ m := by omega
              simp (disch := omega) [hkl, htl, vk, d1, d5, lh, ll, e8, d3, w64, nk, uk, ekn, eku, lw, c1, c1', c2, c3, c3']
              repeat (refine And.intro (by omega) ?_)
              exact ⟨k + 1, by omega, by omega, by simp (disch := omega) [leS, hC, w64, stay (by omega)]⟩
          · have c2' : ¬ hg ≤ m := c2
            simp (disch := omega) [hkl, htl, vk, d1, d5, lh, ll, e8, d3, w64, nk, uk, ekn, eku, lw, c1, c1', c2']
            repeat (refine And.intro (by omega) ?_)
            exact ⟨k + 1, by omega, by omega, by simp (disch := omega) [leS, hC, w64, stay (by omega)]⟩
      · obtain rfl : k = c.vars.length := by omega
        simp
        refine ⟨fun q => ?_, fun q => ?_⟩
        · exact tb_mk ⟨fun h => (by cases h), fun h => absurd h (no (by omega))⟩
        · exact ⟨t + 1, ⟨by omega, st (by omega)⟩, by omega, by simp (disch := omega) [leS, hC, w64]⟩
    · obtain rfl : t = w.length := by omega
      simp
      refine tb_mk ⟨fun _ => sm.1 (List.all_eq_true.2 fun m hm => ?_), fun _ => rfl⟩
      obtain ⟨j, hj, rfl⟩ := mem_gt hm
      exact decide_eq_true (hd j hj)
end Go.Proofs

