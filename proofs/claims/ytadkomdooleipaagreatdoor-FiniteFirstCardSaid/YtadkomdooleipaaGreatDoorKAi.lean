/- Whether a puzzle is one: the document's way. A text of the prover's own. -/
import Derived.Test.YtadkomdooleipaaGreatDoorKAh
namespace Go.Fn
open Go Go.Sv Go.Pl Go.Proofs Go.Tb Go.Ut
theorem any_true_at {α : Type} [Inhabited α] {f : α → Bool} {l : List α} {i : Nat} (hi : i < l.length) (h : f (gt l i) = true) : l.any f = true := List.any_eq_true.2 ⟨_, gt_mem hi, h⟩
theorem any_no {α : Type} [Inhabited α] {f : α → Bool} {l : List α} (h : ∀ i, i < l.length → f (gt l i) = false) : l.any f = false := List.any_eq_false.2 fun x hx => by
  obtain ⟨i, hi, rfl⟩ := List.getElem_of_mem hx
  rw [gt_get hi, h i hi]; simp
def prevO (l : List Int) : Nat → Option Int
  | 0 => none
  | k + 1 => some (gt l k)
end Go.Fn
namespace Go.Proofs
open Go.Sv Go Go.Tb Go.Pl Go.Ut Go.Fn
set_option maxRecDepth 10000 in
theorem rFormed_ok (c : Con) (h : FewC c) : PureF Tryz.prog 26 [conV c] (bov (formB c)) := by
  obtain ⟨b, hb⟩ : ∃ b, formB c = b := ⟨_, rfl⟩
  rw [hb]
  unfold formB at hb
  have h1 := h.v
  have h2 := h.n
  have h3 := h.u
  have h4 := h.r
  refine pure_enter Tryz.func26 rfl (by simp) (fun C hC => ?_)
  simp
  refine ⟨fun k1 => ?_, fun k1 => ⟨fun k2 => ?_, fun k2 => ⟨fun k3 => ?_, fun k3 => ⟨fun k4 => ?_, fun k4 => ⟨fun k5 => ?_, fun k5 => ?_⟩⟩⟩⟩⟩
  · by_cases a1 : c.nums = [] <;> by_cases a2 : c.uses = [] <;> by_cases a3 : c.rows = [] <;> simp_all
  · simp only [k1, k2, if_true, if_false] at hb
    refine CodeJ.loop (ι := Nat) (fun i => ⟨150, [(1, .ptr 0 0 0), (3, iv c.vars.length), (4, iv c.nums.length), (5, iv c.uses.length), (6, iv c.rows.length), (7, iv i)], [some ⟨6, [conV c], false⟩]⟩)
      (fun i => i ≤ c.nums.length ∧ ∀ j, j < i → gt c.nums j ≠ 0) (fun i => c.nums.length - i) 0 ?_ ?_ ?_
    · exact ⟨by omega, fun j hj => by omega⟩
    · simp [leS, hC]
    · rintro i ⟨hi, hf⟩
      by_cases hlt : i < c.nums.length
      · simp (disch := omega) [hlt, lget_iv]
        repeat (refine And.intro (by omega) ?_)
        refine ⟨fun e => ?_, fun e => ?_⟩
        · rw [← hb, any_true_at hlt (by simpa using e)]; simp
        · exact ⟨i + 1, ⟨by omega, step_lt hf e⟩, by omega, by simp (disch := omega) [leS, hC, w64]⟩
      · obtain rfl : i = c.nums.length := by omega
        rw [any_no fun i hi => by simpa using hf i hi] at hb
        simp
        by_cases a1 : c.nums.length = c.vars.length <;> by_cases a2 : c.uses = [] <;> by_cases a3 : c.rows = [] <;> simp_all <;> omega
  · simp only [k1, k2, k3, if_true, if_false] at hb
    refine CodeJ.loop (ι := Nat) (fun i => ⟨150, [(1, .ptr 0 0 0), (3, iv c.vars.length), (4, iv c.nums.length), (5, iv c.uses.length), (6, iv c.rows.length), (8, iv i)], [some ⟨6, [conV c], false⟩]⟩)
      (fun i => i ≤ c.rows.length ∧ ∀ j, j < i → (gt c.rows j).length = c.vars.length) (fun i => c.rows.length - i) 0 ?_ ?_ ?_
    · exact ⟨by omega, fun j hj => by omega⟩
    · simp [leS, hC]
    · rintro i ⟨hi, hf⟩
      by_cases hlt : i < c.rows.length
      · simp (disch := omega) [hlt, lget_ilv]
        repeat (refine And.intro (by omega) ?_)
        refine ⟨fun e => ?_, fun e => ?_⟩
        · rw [← hb, List.all_eq_false.2 ⟨_, gt_mem hlt, by simp; omega⟩]; simp
        · exact ⟨i + 1, ⟨by omega, step_lt hf (by omega)⟩, by omega, by simp (disch := omega) [leS, hC, w64]⟩
      · obtain rfl : i = c.rows.length := by omega
        have ha : (c.rows.all fun r => decide (r.length = c.vars.length)) = true := List.all_eq_true.2 fun r hr => by
          obtain ⟨j, hj, rfl⟩ := List.getElem_of_mem hr
          rw [gt_get hj]; exact decide_eq_true (hf j hj)
        rw [ha] at hb
        simp
        by_cases a1 : c.nums = [] <;> by_cases a2 : c.uses = [] <;> by_cases a3 : c.limit = 0 <;> simp_all
  · by_cases a0 : 2 ≤ c.vars.length <;> by_cases a1 : c.nums = [] <;> by_cases a2 : c.uses = [] <;> by_cases a3 : c.rows = [] <;> by_cases a4 : c.limit = 0 <;> simp_all <;> omega
  · rw [if_neg k1, if_neg k2, if_neg k3, if_neg k4, if_pos k5] at hb
    by_cases a1 : c.nums.length = c.vars.length
    · by_cases a2 : c.uses.length = c.vars.length
      · by_cases a3 : c.rows = []
        · by_cases a4 : 0 ≤ c.limit
          · have a4' : ¬ c.limit < 0 := by omega
            rw [decide_eq_true (show _ ∧ _ ∧ _ ∧ _ from ⟨a1, a2, by simp [a3], a4⟩), Bool.true_and] at hb
            simp [a1, a2, a3, a4']
            refine fun _ => ?_
            refine CodeJ.loop (ι := Nat) (fun i => ⟨150, [(1, .ptr 0 0 0), (3, iv c.vars.length), (4, iv c.nums.length), (5, iv c.uses.length), (6, iv c.rows.length), (9, iv i)], [some ⟨6, [conV c], false⟩]⟩)
              (fun i => i ≤ c.vars.length ∧ ∀ j, j < i → 0 ≤ gt c.nums j ∧ 0 ≤ gt c.uses j) (fun i => c.vars.length - i) 0 ?_ ?_ ?_
            · exact ⟨by omega, fun j hj => by omega⟩
            · simp [leS, hC, a1, a2, a3]
            · rintro i ⟨hi, hf⟩
              by_cases hlt : i < c.vars.length
              · have b1 : i < c.nums.length := by omega
                have b2 : i < c.uses.length := by omega
                have no : ¬ (0 ≤ gt c.nums i ∧ 0 ≤ gt c.uses i) → b = false := fun q => by
                  rw [← hb]; refine List.all_eq_false.2 ⟨i, by simpa using hlt, ?_⟩
                  simp; omega
                simp (disch := omega) [hlt, lget_iv, b1, b2]
                repeat (refine And.intro (by omega) ?_)
                refine ⟨fun e => ⟨fun e' => no (by omega), fun e' => ?_⟩, fun e => no (by omega)⟩
                exact ⟨i + 1, ⟨by omega, step_lt hf ⟨by omega, by omega⟩⟩, by omega, by simp (disch := omega) [leS, hC, w64]⟩
              · obtain rfl : i = c.vars.length := by omega
                have ha : ((List.range c.vars.length).all fun i => decide (0 ≤ gt c.nums i) && decide (0 ≤ gt c.uses i)) = true := List.all_eq_true.2 fun j hj => by
                  have := hf j (by simpa using hj)
                  simp [this.1, this.2]
                rw [ha] at hb
                simp [← hb]
          · have a4' : c.limit < 0 := by omega
            simp [a1, a2, a3, a4'] at hb ⊢
            exact ⟨by rw [← hb, decide_eq_false (by omega)]; simp, fun q => absurd q (by omega)⟩
        · simp [a1, a2, a3] at hb ⊢
          exact fun _ => hb
      · have a2' : ¬ (c.uses.length : Int) = c.vars.length := by omega
        simp [a1, a2] at hb
        simp [a1, a2', hb]
    · have a1' : ¬ (c.nums.length : Int) = c.vars.length := by omega
      simp [a1] at hb
      simp [a1', hb]
  · simp_all
set_option maxRecDepth 10000 in
theorem rConValid_ok (p : Puz) (hp : p.values.length ≤ 6) (c : Con) (h : FewC c) : PureF Tryz.prog 17 [puzV p, conV c] (iv (vC p.values.length c)) := by
  obtain ⟨b, hb⟩ : ∃ b, vC p.values.length c = b := ⟨_, rfl⟩
  rw [hb]
  unfold vC at hb
  have h1 := h.v
  have h2 := h.n
  have h3 := h.u
  have h4 := h.r
  have g1 := rFormed_ok c h
  have g2 := rAnyBig_ok c.nums (by omega)
  have g3 := rAnyBig_ok c.uses (by omega)
  have g4 := rBig_ok c.limit
  have hR : badR c = c.rows.any fun r => r.any badN := rfl
  generalize hF : formB c = f0 at *
  generalize hn : c.nums.any badN = n1 at *
  generalize hu : c.uses.any badN = u1 at *
  generalize hl : badN c.limit = l1 at *
  have e1 : ¬ (60 : Int) < c.vars.length := by omega
  have e2 : ¬ (60 : Int) < c.nums.length := by omega
  have e3 : ¬ (60 : Int) < c.uses.length := by omega
  have e4 : ¬ (200 : Int) < c.rows.length := by omega
  have f1 : (c.vars.length : Int) ≤ 60 := by omega
  have f2 : (c.nums.length : Int) ≤ 60 := by omega
  have f3 : (c.uses.length : Int) ≤ 60 := by omega
  have f4 : (c.rows.length : Int) ≤ 200 := by omega
  refine pure_enter Tryz.func17 rfl (by simp) (fun C hC => ?_)
  simp [e1, e2, e3, e4, f1, f2, f3, f4]
  refine CodeJ.loop (ι := Nat) (fun i => ⟨103, [(2, .ptr 0 0 0), (3, .ptr 1 0 0), (5, iv c.vars.length), (6, iv i)], [some ⟨2, [puzV p], false⟩, some ⟨6, [conV c], false⟩]⟩)
    (fun i => i ≤ c.rows.length) (fun i => c.rows.length - i) 0 (by omega) ?_ ?_
  · simp [leS, hC]
  rintro i hi
  by_cases hlt : i < c.rows.length
  · have hl := h.l _ (gt_mem hlt)
    have e5 : ¬ (60 : Int) < (gt c.rows i).length := by omega
    have e6 : ((gt c.rows i).length : Int) ≤ 60 := by omega
    simp (disch := omega) [hlt, lget_ilv, e5, e6]
    repeat (refine And.intro (by omega) ?_)
    exact ⟨i + 1, by omega, by omega, by simp (disch := omega) [leS, hC, w64]⟩
  obtain rfl : i = c.rows.length := by omega
  simp
  refine callS (g2) (by simp) ?_
  simp
  refine ⟨fun q => by rw [← hb]; simp [q], fun q1 => ?_⟩
  subst q1
  refine callS (g3) (by simp) ?_
  simp
  refine ⟨fun q => by rw [← hb]; simp [q], fun q2 => ?_⟩
  subst q2
  refine callS (g4) (by simp) ?_
  simp
  refine CodeJ.loop (ι := Nat × Bool) (fun ⟨i, x⟩ => ⟨103, [(2, .ptr 0 0 0), (3, .ptr 1 0 0), (5, iv c.vars.length), (7, bov x), (8, iv i)], [some ⟨2, [puzV p], false⟩, some ⟨6, [conV c], false⟩]⟩)
    (fun ⟨i, x⟩ => i ≤ c.rows.length ∧ (x = (l1 || (c.rows.take i).any fun r => r.any badN))) (fun ⟨i, x⟩ => c.rows.length - i) (0, l1) ?_ ?_ ?_
  · simp
  · simp [leS, hC]
  rintro ⟨i, x⟩ ⟨hi, hx⟩
  cases x with
  | true =>
    have : (l1 || badR c) = true := by
      rw [hR, ← List.take_append_drop i c.rows, List.any_append, ← Bool.or_assoc, ← hx]; rfl
    by_cases hlt : i < c.rows.length
    · simp [hlt]
      rw [← hb, if_pos (by simpa using this)]; rfl
    · have : ¬ (i : Int) < c.rows.length := by omega
      simp [this]
      rw [← hb, if_pos (by simpa using ‹(l1 || badR c) = true›)]; rfl
  | false =>
    by_cases hlt : i < c.rows.length
    · have hl := h.l _ (gt_mem hlt)
      have g5 := rAnyBig_ok (gt c.rows i) (by omega)
      generalize hr : (gt c.rows i).any badN = r1 at *
      simp (disch := omega) [hlt, lget_ilv, -Bool.exists_bool]
      repeat (refine And.intro (by omega) ?_)
      refine callS (g5) (by simp) ?_
      simp (disch := omega) [w64, -Bool.exists_bool]
      repeat (refine And.intro (by omega) ?_)
      refine ⟨i + 1, r1, ⟨by omega, ?_⟩, by omega, by simp (disch := omega) [leS, hC, w64]⟩
      rw [take_gt hlt, List.any_append, ← Bool.or_assoc, ← hx]
      simp [hr]
    · obtain rfl : i = c.rows.length := by omega
      rw [List.take_length, ← hR] at hx
      rw [if_neg (by simpa using hx.symm)] at hb
      simp
      refine CodeJ.loop (ι := Nat) (fun i => ⟨103, [(2, .ptr 0 0 0), (3, .ptr 1 0 0), (5, iv c.vars.length), (9, iv i)], [some ⟨2, [puzV p], false⟩, some ⟨6, [conV c], false⟩]⟩)
        (fun i => i ≤ c.vars.length ∧ ∀ j, j < i → 0 ≤ gt c.vars j ∧ gt c.vars j < p.values.length) (fun i => c.vars.length - i) 0 ?_ ?_ ?_
      · exact ⟨by omega, fun j hj => by omega⟩
      · simp [leS, hC]
      rintro i ⟨hi, hf⟩
      by_cases hlt : i < c.vars.length
      · have no : ¬ (0 ≤ gt c.vars i ∧ gt c.vars i < p.values.length) → b = 4 := fun q => by
          rw [← hb, if_pos (show badV p.values.length c = true from any_true_at hlt (by simp; omega))]
        simp (disch := omega) [hlt, lget_iv]
        repeat (refine And.intro (by omega) ?_)
        refine CodeJ.draw (.qs [0, 1, 2, 3, 4, 5, 6, 7, 8, 9, 10, 11, 12, 13, 14, 15, 16] <| .nil) (by kernel_rfl) (by kernel_rfl) (by simp) ?_
        simp (disch := omega) [hlt, lget_iv]
        repeat (refine And.intro (by omega) ?_)
        refine ⟨fun e => ⟨fun e' => ?_, fun e' => ?_⟩, fun e => ?_⟩
        · rw [no (by omega)]; rfl
        · exact ⟨i + 1, ⟨by omega, step_lt hf ⟨by omega, by omega⟩⟩, by omega, by simp (disch := omega) [leS, hC, w64]⟩
        · rw [no (by omega)]; rfl
      · obtain rfl : i = c.vars.length := by omega
        rw [if_neg (by
          rw [show badV p.values.length c = false from any_no fun j hj => by have := hf j hj; simp; omega]; simp)] at hb
        simp
        refine callS (g1) (by simp) ?_
        simp
        cases f0 <;> simp [← hb]
set_option maxRecDepth 10000 in
theorem rPuzzleValid_ok (p : Puz) (h : FewP p) : PureF Tryz.prog 9 [puzV p] (iv (vPuz p)) := by
  obtain ⟨b, hb⟩ : ∃ b, vPuz p = b := ⟨_, rfl⟩
  rw [hb]
  unfold vPuz at hb
  have h1 := h.v
  have h2 := h.c
  have e1 : ¬ (60 : Int) < p.values.length := by omega
  have e2 : ¬ (100 : Int) < p.cons.length := by omega
  have f1 : (p.values.length : Int) ≤ 60 := by omega
  have f2 : (p.cons.length : Int) ≤ 100 := by omega
  refine pure_enter Tryz.func9 rfl (by simp) (fun C hC => ?_)
  simp [e1, e2, f1, f2]
  refine CodeJ.loop (ι := Nat) (fun i => ⟨77, [(1, .ptr 0 0 0), (3, iv i)], [some ⟨2, [puzV p], false⟩]⟩)
    (fun i => i ≤ p.values.length ∧ vLs p.values = vLs (p.values.drop i)) (fun i => p.values.length - i) 0 ?_ ?_ ?_
  · simp
  · simp [leS, hC]
  rintro i ⟨hi, hv⟩
  by_cases hlt : i < p.values.length
  · have hl := h.l _ (gt_mem hlt)
    have lv := lget_ilv hlt
    rw [drop_gt hlt] at hv
    simp only [vLs] at hv
    generalize gt p.values i = l at *
    have e5 : ¬ (200 : Int) < l.length := by omega
    have e6 : (l.length : Int) ≤ 200 := by omega
    simp (disch := omega) [hlt, lv, e5, e6]
    repeat (refine And.intro (by omega) ?_)
    refine CodeJ.loop (ι := Nat) (fun k => ⟨77, [(1, .ptr 0 0 0), (3, iv i), (4, ilv l), (5, iv k)], [some ⟨2, [puzV p], false⟩]⟩)
      (fun k => k ≤ l.length ∧ vL none l = vL (prevO l k) (l.drop k)) (fun k => l.length - k) 0 ?_ ?_ ?_
    · simp [prevO]
    · simp [leS, hC]
    rintro k ⟨hk, hw⟩
    by_cases hkl : k < l.length
    · have lk := lget_iv hkl
      rw [drop_gt hkl] at hw
      have lp : 0 < k → lget (l.map iv) (k - 1) = iv (gt l (k - 1)) := fun q => lget_iv (by omega)
      simp (disch := omega) [hkl, lk]
      repeat (refine And.intro (by omega) ?_)
      refine callS (rBig_ok _) (by simp) ?_
      simp
      refine ⟨fun q => ?_, fun q => ?_⟩
      · simp only [vL, q, if_true] at hw
        rw [hv, hw] at hb
        rw [← hb]; rfl
      · simp only [vL, q] at hw
        refine CodeJ.draw (.qs [0, 1, 2, 3, 4, 5, 6, 7, 8, 9, 10, 11, 12, 13] <| .nil) (by kernel_rfl) (by kernel_rfl) (by simp) ?_
        by_cases k0 : k = 0
        · subst k0
          simp (disch := omega) []
          repeat (refine And.intro (by omega) ?_)
          exact ⟨0 + 1, ⟨by omega, by simpa [prevO] using hw⟩, by omega, by simp (disch := omega) [leS, hC, w64]⟩
        · have kp : 0 < (k : Int) := by omega
          have e7 : ¬ (k : Int) ≤ 0 := by omega
          have e8 : ((k : Int) - 1).toNat = k - 1 := by omega
          rw [show prevO l k = some (gt l (k - 1)) by cases k with | zero => omega | succ k => rfl] at hw
          simp (disch := omega) [kp, e7, hkl, lk, w64, e8, lp]
          repeat (refine And.intro (by omega) ?_)
          refine ⟨fun _ => ⟨by omega, fun q' => ?_, fun q' => ?_⟩, fun q' => absurd q' k0⟩
          · simp [q'] at hw
            rw [hv, hw] at hb
            rw [← hb]; rfl
          · have : ¬ gt l k ≤ gt l (k - 1) := by omega
            simp [this] at hw
            exact ⟨k + 1, ⟨by omega, hw⟩, by omega, by simp (disch := omega) [leS, hC, w64]⟩
    · obtain rfl : k = l.length := by omega
      rw [List.drop_length] at hw
      simp only [vL] at hw
      rw [hw, if_pos rfl] at hv
      simp
      exact ⟨i + 1, ⟨by omega, hv⟩, by omega, by simp (disch := omega) [leS, hC, w64]⟩
  · obtain rfl : i = p.values.length := by omega
    rw [List.drop_length] at hv
    simp only [vLs] at hv
    rw [hv, if_pos rfl] at hb
    simp
    refine CodeJ.loop (ι := Nat) (fun i => ⟨77, [(1, .ptr 0 0 0), (7, iv i)], [some ⟨2, [puzV p], false⟩]⟩)
      (fun i => i ≤ p.cons.length ∧ vCs p.values.length p.cons = vCs p.values.length (p.cons.drop i)) (fun i => p.cons.length - i) 0 ?_ ?_ ?_
    · simp
    · simp [leS, hC]
    rintro i ⟨hi, hw⟩
    by_cases hlt : i < p.cons.length
    · have g := rConValid_ok p h1 _ (h.k _ (gt_mem hlt))
      have lc := lget_conV hlt
      rw [drop_gt hlt] at hw
      simp only [vCs] at hw
      have cs := vC_cases p.values.length (gt p.cons i)
      generalize vC p.values.length (gt p.cons i) = v at *
      simp (disch := omega) [hlt]
      repeat (refine And.intro (by omega) ?_)
      refine CodeJ.draw (.qs [0, 1, 2, 3, 4, 5] <| .l 6 [] <| .qs [7] <| .nil) (by kernel_rfl) (by kernel_rfl) (by simp) ?_
      simp (disch := omega) [hlt, lc]
      repeat (refine And.intro (by omega) ?_)
      refine callS (g) (by simp) ?_
      simp
      refine ⟨fun q => ?_, fun q => ?_⟩
      · rw [if_neg (by omega)] at hw
        rw [← hb, hw]
      · rw [if_pos (by omega)] at hw
        exact ⟨i + 1, ⟨by omega, hw⟩, by omega, by simp (disch := omega) [leS, hC, w64]⟩
    · obtain rfl : i = p.cons.length := by omega
      rw [List.drop_length] at hw
      simp only [vCs] at hw
      simp [← hb, hw]
end Go.Proofs

