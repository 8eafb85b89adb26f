/- Whether a puzzle is one: the program's way. Whether a puzzle is one: the program's way, whole. A text of the prover's own. -/
import Derived.Test.YtadkomdooleipaaGreatDoorKAi
namespace Go.Fn
open Go Go.Sv Go.Pl Go.Proofs Go.Tb Go.Ut
/-- all numbers of a constraint, but which variables -/
def numsOf (c : Con) (i : Nat) : List Int := (c.limit :: c.nums) ++ c.uses ++ (c.rows.take i).flatten
theorem numsOf_succ {c : Con} {i : Nat} (h : i < c.rows.length) : numsOf c (i + 1) = numsOf c i ++ gt c.rows i := by
  unfold numsOf; rw [take_gt h, List.flatten_append]; simp
theorem numsOf_any (c : Con) : (numsOf c c.rows.length).any badN = (badN c.limit || c.nums.any badN || c.uses.any badN || badR c) := by
  unfold numsOf badR
  rw [List.take_length, List.any_append, List.any_append, List.any_cons, List.any_flatten]
theorem numsOf_len {c : Con} (h : FewC c) : ∀ i, i ≤ c.rows.length → (numsOf c i).length ≤ 17 + 8 * i
  | 0, _ => by have := h.n; have := h.u; simp [numsOf]; omega
  | i + 1, hi => by
    have := numsOf_len h i (by omega)
    have := h.l _ (gt_mem (show i < c.rows.length by omega))
    rw [numsOf_succ (by omega), List.length_append]; omega
end Go.Fn
namespace Go.Proofs
open Go.Sv Go Go.Tb Go.Pl Go.Ut Go.Fn
set_option maxRecDepth 10000 in
set_option maxHeartbeats 2000000 in
theorem qvalid_ok (p : Puz) (hp : p.values.length ≤ 6) (c : Con) (h : FewC c) : PureF Tryz.prog 20 [puzV p, conV c] (erV (vC p.values.length c)) := by
  have h1 := h.v
  have h2 := h.n
  have h3 := h.u
  have h4 := h.r
  have e1 : ¬ (60 : Int) < c.vars.length := by omega
  have e2 : ¬ (60 : Int) < c.nums.length := by omega
  have e3 : ¬ (60 : Int) < c.uses.length := by omega
  have e4 : ¬ (200 : Int) < c.rows.length := by omega
  have f1 : (c.vars.length : Int) ≤ 60 := by omega
  have f2 : (c.nums.length : Int) ≤ 60 := by omega
  have f3 : (c.uses.length : Int) ≤ 60 := by omega
  have f4 : (c.rows.length : Int) ≤ 200 := by omega
  refine pure_enter Tryz.func20 rfl (by simp) (fun C hC => ?_)
  simp [e1, e2, e3, e4, f1, f2, f3, f4]
  refine CodeJ.frz 0 rfl (by simp) ?_
  simp [frzS, tset]
  refine CodeJ.frz 1 rfl (by simp) ?_
  simp [frzS, tset]
  refine CodeJ.draw (.qs [0, 1, 3, 4, 6] <| .q 7 [1000000] <| .l 2 [] <| .l 5 [1000000] <| .l 8 [1000000] <| .qs [9] <| .nil) (by kernel_rfl) (by kernel_rfl) (by simp) ?_
  simp (disch := omega) []
  repeat (refine And.intro (by omega) ?_)
  refine ⟨⟨by simp [hC], by omega⟩, ⟨by simp [hC], by omega, by omega⟩, ?_⟩
  refine CodeJ.loop (ι := Nat) (fun i => ⟨255, [(2, .rop (puzV p) 0), (3, .rop (conV c) 0), (5, .view 2 0 (numsOf c i).length), (50, .ro (c.rows.map ilv)), (51, iv c.rows.length), (52, iv i)], [none, none, some ⟨1, (numsOf c i).map iv, false⟩]⟩)
    (fun i => i ≤ c.rows.length) (fun i => c.rows.length - i) 0 (by omega) ?_ ?_
  · simp [leS, hC, numsOf]; omega
  rintro i hi
  by_cases hlt : i < c.rows.length
  · have hl := h.l _ (gt_mem hlt)
    have hn := numsOf_len h i (by omega)
    have lv := lget_ilv hlt
    have hs := numsOf_succ hlt
    generalize gt c.rows i = r at *
    generalize numsOf c i = N at *
    have e5 : ¬ (60 : Int) < r.length := by omega
    have e6 : (r.length : Int) ≤ 60 := by omega
    simp (disch := omega) [hlt, lv, e5, e6]
    repeat (refine And.intro (by omega) ?_)
    exact ⟨⟨by simp [hC], by omega⟩, i + 1, by omega, by omega, by simp (disch := omega) [leS, hC, w64, hs]⟩
  obtain rfl : i = c.rows.length := by omega
  have hn := numsOf_len h c.rows.length (by omega)
  have ha := numsOf_any c
  generalize numsOf c c.rows.length = N at *
  have h2v : (if N.any badN = true then 2 else if badV p.values.length c = true then 4 else if formB c = true then 0 else 4) = vC p.values.length c := by unfold vC; rw [ha]
  generalize vC p.values.length c = b at *
  simp
  refine CodeJ.frz 2 rfl (by simp) ?_
  simp [frzS, tset]
  refine CodeJ.loop (ι := Nat) (fun i => ⟨255, [(2, .rop (puzV p) 0), (3, .rop (conV c) 0), (64, .ro (N.map iv)), (65, iv N.length), (66, iv i)], []⟩)
    (fun i => i ≤ N.length ∧ ∀ j, j < i → badN (gt N j) = false) (fun i => N.length - i) 0 ?_ ?_ ?_
  · exact ⟨by omega, fun j hj => by omega⟩
  · simp [leS, hC]
  rintro i ⟨hi, hf⟩
  by_cases hlt : i < N.length
  · have lv := lget_iv hlt
    have yes : badN (gt N i) = true → erV b = erV 2 := fun q => by rw [← h2v, if_pos (any_true_at hlt q)]
    have no : badN (gt N i) = false → ∀ j, j < i + 1 → badN (gt N j) = false := step_lt hf
    unfold badN at yes no
    generalize gt N i = v at *
    simp (disch := omega) [hlt, lv]
    repeat (refine And.intro (by omega) ?_)
    refine ⟨fun q => ⟨fun q' => ?_, fun q' => ?_⟩, fun q => ?_⟩
    · rw [yes (by simp; omega), erV_2]
    · exact ⟨i + 1, ⟨by omega, no (by simp; omega)⟩, by omega, by simp (disch := omega) [leS, hC, w64]⟩
    · rw [yes (by simp; omega), erV_2]
  obtain rfl : i = N.length := by omega
  rw [if_neg (by rw [any_no hf]; simp)] at h2v
  simp
  refine CodeJ.loop (ι := Nat) (fun i => ⟨255, [(2, .rop (puzV p) 0), (3, .rop (conV c) 0), (79, .ro (c.vars.map iv)), (80, iv c.vars.length), (81, iv i)], []⟩)
    (fun i => i ≤ c.vars.length ∧ ∀ j, j < i → 0 ≤ gt c.vars j ∧ gt c.vars j < p.values.length) (fun i => c.vars.length - i) 0 ?_ ?_ ?_
  · exact ⟨by omega, fun j hj => by omega⟩
  · simp [leS, hC]
  rintro i ⟨hi, hg⟩
  by_cases hlt : i < c.vars.length
  · have no : ¬ (0 ≤ gt c.vars i ∧ gt c.vars i < p.values.length) → erV b = erV 4 := fun q => by
      rw [← h2v, if_pos (show badV p.values.length c = true from any_true_at hlt (by simp; omega))]
    have lv := lget_iv hlt
    have st := @step_lt (fun j => 0 ≤ gt c.vars j ∧ gt c.vars j < p.values.length) i hg
    generalize gt c.vars i = v at *
    simp (disch := omega) [hlt, lv]
    repeat (refine And.intro (by omega) ?_)
    refine ⟨fun e => ⟨fun e' => ?_, fun e' => ?_⟩, fun e => ?_⟩
    · rw [no (by omega), erV_4]
    · exact ⟨i + 1, ⟨by omega, st ⟨by omega, by omega⟩⟩, by omega, by simp (disch := omega) [leS, hC, w64]⟩
    · rw [no (by omega), erV_4]
  obtain rfl : i = c.vars.length := by omega
  have hbv : badV p.values.length c = false := any_no fun j hj => by have := hg j hj; simp; omega
  rw [if_neg (by rw [hbv]; simp)] at h2v
  have yes : formB c = true → erV b = .val .nilIface := fun q => by rw [← h2v, if_pos q]; rfl
  have no : ¬ formB c = true → erV b = .sen sent 0 := fun q => by rw [← h2v, if_neg q]; rfl
  clear h2v hbv hn ha
  have k1f : c.kind = 1 → formB c = decide (c.nums.length = 0 ∧ c.uses.length = 0 ∧ c.rows.length = 0 ∧ c.limit = 0) := fun q => by unfold formB; rw [if_pos q]
  have k2f : c.kind = 2 → formB c = (decide (c.nums.length = c.vars.length ∧ c.uses.length = 0 ∧ c.rows.length = 0) && !c.nums.any (fun v => decide (v = 0))) := fun q => by unfold formB; rw [if_neg (by omega), if_pos q]
  have k3f : c.kind = 3 → formB c = (decide (c.nums.length = 0 ∧ c.uses.length = 0 ∧ c.limit = 0) && c.rows.all fun r => decide (r.length = c.vars.length)) := fun q => by unfold formB; rw [if_neg (by omega), if_neg (by omega), if_pos q]
  have k4f : c.kind = 4 → formB c = decide (2 ≤ c.vars.length ∧ c.nums.length = 0 ∧ c.uses.length = 0 ∧ c.rows.length = 0 ∧ c.limit = 0) := fun q => by unfold formB; rw [if_neg (by omega), if_neg (by omega), if_neg (by omega), if_pos q]
  have k5f : c.kind = 5 → formB c = (decide (c.nums.length = c.vars.length ∧ c.uses.length = c.vars.length ∧ c.rows.length = 0 ∧ 0 ≤ c.limit) && ((List.range c.vars.length).all fun i => decide (0 ≤ gt c.nums i) && decide (0 ≤ gt c.uses i))) := fun q => by unfold formB; rw [if_neg (by omega), if_neg (by omega), if_neg (by omega), if_neg (by omega), if_pos q]
  have k6f : ¬ c.kind = 1 → ¬ c.kind = 2 → ¬ c.kind = 3 → ¬ c.kind = 4 → ¬ c.kind = 5 → formB c = false := fun q1 q2 q3 q4 q5 => by unfold formB; rw [if_neg q1, if_neg q2, if_neg q3, if_neg q4, if_neg q5]
  generalize formB c = f0 at *
  have subN : erV b = .val .nilIface → Sv.Sub [] (SV.val Value.nilIface) (erV b) := fun q => by rw [q]; simp
  have lnR : c.rows = [] ↔ c.rows.length = 0 := by simp
  simp (disch := omega) [w64]
  refine ⟨fun k1 => ⟨fun q1 => ⟨fun q2 => no ?_, fun q2 => subN (yes ?_)⟩, fun q1 => no ?_⟩, fun k1 => ⟨fun k2 => ⟨fun q1 => ⟨fun q2 => ?_, fun q2 => no ?_⟩, fun q1 => no ?_⟩, fun k2 => ⟨fun k3 => ?_, fun k3 => ⟨fun k4 => ⟨fun q1 => ⟨fun q2 => ⟨fun q3 => no ?_, fun q3 => subN (yes ?_)⟩, fun q2 => no ?_⟩, fun q1 => no ?_⟩, fun k4 => ⟨fun k5 => ?_, fun k5 => no ?_⟩⟩⟩⟩⟩
  · rw [k1f k1, decide_eq_true_eq]; omega
  · rw [k1f k1, decide_eq_true_eq]; omega
  · rw [k1f k1, decide_eq_true_eq]; omega
  · refine callS (slContains_ok c.nums (by omega) 0) (by simp) ?_
    have e : (c.nums.any fun v => decide (v = 0)) = decide (0 ∈ c.nums) := by
      by_cases h0 : 0 ∈ c.nums
      · rw [decide_eq_true h0]; exact List.any_eq_true.2 ⟨0, h0, by simp⟩
      · rw [decide_eq_false h0]; exact List.any_eq_false.2 fun x hx => by
          simp; intro q; exact h0 (q ▸ hx)
    have k2g := k2f k2
    rw [e, decide_eq_true (show _ ∧ _ ∧ _ from ⟨by omega, by omega, by omega⟩), Bool.true_and] at k2g
    simp
    refine ⟨fun q => no (by rw [k2g]; simp [q]), fun q => subN (yes (by rw [k2g]; simp [q]))⟩
  · rw [k2f k2, Bool.and_eq_true, decide_eq_true_eq]; rintro ⟨h, _⟩; omega
  · rw [k2f k2, Bool.and_eq_true, decide_eq_true_eq]; rintro ⟨h, _⟩; omega
  · have k3g := k3f k3
    have loop : ∀ (x0 : Bool), (x0 = true ↔ c.nums.length = 0 ∧ c.uses.length = 0 ∧ c.limit = 0) → ∀ (i : Nat) (x : Bool), ((x = true → x0 = true ∧ ∀ j, j < i → (gt c.rows j).length = c.vars.length) ∧ (x = false → f0 = false)) → i < c.rows.length → ∀ (y : Bool), (y = true ↔ x = true ∧ (gt c.rows i).length = c.vars.length) → ((y = true → x0 = true ∧ ∀ j, j < i + 1 → (gt c.rows j).length = c.vars.length) ∧ (y = false → f0 = false)) := fun x0 _ i x hx hi y hy => by
      refine ⟨fun q => ?_, fun q => ?_⟩
      · obtain ⟨q1, q2⟩ := hy.1 q
        exact ⟨(hx.1 q1).1, step_lt (hx.1 q1).2 q2⟩
      · by_cases q1 : x = true
        · have : ¬ (gt c.rows i).length = c.vars.length := fun q2 => by rw [hy.2 ⟨q1, q2⟩] at q; cases q
          rw [k3g, List.all_eq_false.2 ⟨_, gt_mem hi, by simpa using this⟩]; simp
        · exact hx.2 (by simpa using q1)
    refine ⟨fun q1 => ?_, fun q1 => ?_⟩
    all_goals
      obtain ⟨x0, e0, hx0⟩ : ∃ x0 : Bool, x0 = decide (c.nums.length = 0 ∧ c.uses.length = 0 ∧ c.limit = 0) ∧ (x0 = true ↔ c.nums.length = 0 ∧ c.uses.length = 0 ∧ c.limit = 0) := ⟨_, rfl, by simp only [decide_eq_true_eq]⟩
      have loop' := loop x0 hx0
      refine CodeJ.loop (ι := Nat × Bool) (fun ⟨i, x⟩ => ⟨255, [(2, .rop (puzV p) 0), (3, .rop (conV c) 0), (12, iv c.vars.length), (13, bov x), (159, .ro (c.rows.map ilv)), (160, iv c.rows.length), (161, iv i)], []⟩)
        (fun ⟨i, x⟩ => i ≤ c.rows.length ∧ ((x = true → x0 = true ∧ ∀ j, j < i → (gt c.rows j).length = c.vars.length) ∧ (x = false → f0 = false))) (fun ⟨i, x⟩ => c.rows.length - i) (0, x0) ?_ ?_ ?_
      · refine ⟨by omega, fun q => ⟨q, fun j hj => by omega⟩, fun q => ?_⟩
        rw [k3g, ← e0, q]; rfl
      · rw [e0]
        first
          | (have n0 : c.nums = [] := List.eq_nil_of_length_eq_zero (by omega)
             have u0 : c.uses = [] := List.eq_nil_of_length_eq_zero (by omega)
             simp [leS, hC, n0, u0]; done)
          | (simp [leS, hC]; intro a b; rw [a, b] at q1; simp at q1)
      rintro ⟨i, x⟩ ⟨hi, hx⟩
      by_cases hlt : i < c.rows.length
      · have lv := lget_ilv hlt
        have st := loop' i x hx hlt
        generalize gt c.rows i = r at *
        simp (disch := omega) [hlt, lv, -Bool.exists_bool]
        repeat (refine And.intro (by omega) ?_)
        cases x with
        | true =>
          simp (disch := omega) [w64, -Bool.exists_bool]
          repeat (refine And.intro (by omega) ?_)
          exact ⟨i + 1, _, ⟨by omega, st (decide ((r.length : Int) = c.vars.length)) (by simp; omega)⟩, by omega, by simp (disch := omega) [leS, hC, w64]⟩
        | false =>
          simp (disch := omega) [w64, -Bool.exists_bool]
          repeat (refine And.intro (by omega) ?_)
          exact ⟨i + 1, false, ⟨by omega, st false (by simp)⟩, by omega, by simp (disch := omega) [leS, hC, w64]⟩
      · obtain rfl : i = c.rows.length := by omega
        simp
        refine ⟨fun q => no (by rw [hx.2 q]; simp), fun q => subN (yes ?_)⟩
        obtain ⟨a1, a2⟩ := hx.1 q
        rw [k3g, ← e0, a1, Bool.true_and]
        refine List.all_eq_true.2 fun r hr => ?_
        obtain ⟨j, hj, rfl⟩ := List.getElem_of_mem hr
        rw [gt_get hj]; exact decide_eq_true (a2 j hj)
  · rw [k4f k4, decide_eq_true_eq]; omega
  · rw [k4f k4, decide_eq_true_eq]; omega
  · rw [k4f k4, decide_eq_true_eq]; omega
  · rw [k4f k4, decide_eq_true_eq]; omega
  · have k5g := k5f k5
    obtain ⟨x0, e0⟩ : ∃ x0 : Bool, x0 = decide (c.nums.length = c.vars.length ∧ c.uses.length = c.vars.length ∧ c.rows.length = 0 ∧ 0 ≤ c.limit) := ⟨_, rfl⟩
    have hx0 : x0 = true → c.nums.length = c.vars.length ∧ c.uses.length = c.vars.length := fun q => by
      rw [e0, decide_eq_true_eq] at q; exact ⟨q.1, q.2.1⟩
    have loop : ∀ (i : Nat) (x : Bool), ((x = true → x0 = true ∧ ∀ j, j < i → 0 ≤ gt c.nums j ∧ 0 ≤ gt c.uses j) ∧ (x = false → f0 = false)) → i < c.nums.length → ∀ (y : Bool), (x = true → (y = true ↔ (0 ≤ gt c.nums i ∧ 0 ≤ gt c.uses i))) → (x = false → y = false) → ((y = true → x0 = true ∧ ∀ j, j < i + 1 → 0 ≤ gt c.nums j ∧ 0 ≤ gt c.uses j) ∧ (y = false → f0 = false)) := fun i x hx hi y h1 h2 => by
      cases x with
      | false => rw [h2 rfl]; exact ⟨fun q => (by cases q), fun _ => hx.2 rfl⟩
      | true =>
        refine ⟨fun q => ⟨(hx.1 rfl).1, step_lt (hx.1 rfl).2 ((h1 rfl).1 q)⟩, fun q => ?_⟩
        have : ¬ (0 ≤ gt c.nums i ∧ 0 ≤ gt c.uses i) := fun q2 => by rw [(h1 rfl).2 q2] at q; cases q
        have l0 := (hx0 (hx.1 rfl).1).1
        have : ((List.range c.vars.length).all fun i => decide (0 ≤ gt c.nums i) && decide (0 ≤ gt c.uses i)) = false := List.all_eq_false.2 ⟨i, by simp; omega, by simp; omega⟩
        rw [k5g, this]; simp
    refine ⟨fun q1 => ⟨fun q2 => ⟨fun q3 => ?_, fun q3 => ?_⟩, fun q2 => ?_⟩, fun q1 => ?_⟩
    all_goals
      refine CodeJ.loop (ι := Nat × Bool) (fun ⟨i, x⟩ => ⟨255, [(2, .rop (puzV p) 0), (3, .rop (conV c) 0), (12, iv c.vars.length), (13, bov x), (223, iv c.nums.length), (224, iv i)], []⟩)
        (fun ⟨i, x⟩ => i ≤ c.nums.length ∧ ((x = true → x0 = true ∧ ∀ j, j < i → 0 ≤ gt c.nums j ∧ 0 ≤ gt c.uses j) ∧ (x = false → f0 = false))) (fun ⟨i, x⟩ => c.nums.length - i) (0, x0) ?_ ?_ ?_
      · refine ⟨by omega, fun q => ⟨q, fun j hj => by omega⟩, fun q => ?_⟩
        rw [k5g, ← e0, q]; rfl
      · first
          | (have n1 : c.nums.length = c.vars.length := by omega
             have n2 : c.uses.length = c.vars.length := by omega
             have : x0 = decide (0 ≤ c.limit) := by rw [e0, q3]; simp [n1, n2]
             rw [this]; simp [leS, hC]; done)
          | (have : x0 = false := by rw [e0, decide_eq_false_iff_not]; simp; intros; first | omega | contradiction
             rw [this]; simp [leS, hC]; done)
      rintro ⟨i, x⟩ ⟨hi, hx⟩
      by_cases hlt : i < c.nums.length
      · have st := loop i x hx hlt
        cases x with
        | true =>
          have hl := hx0 (hx.1 rfl).1
          first
            | (exfalso; omega)
            | (have b2 : i < c.uses.length := by omega
               have lv := lget_iv hlt
               have lu := lget_iv b2
               generalize gt c.nums i = v at *
               generalize gt c.uses i = u at *
               simp (disch := omega) [hlt, lv, lu, b2, w64, -Bool.exists_bool]
               repeat (refine And.intro (by omega) ?_)
               refine ⟨fun q => ?_, fun q => ?_⟩
               · exact ⟨i + 1, decide (0 ≤ u), ⟨by omega, st (decide (0 ≤ u)) (fun _ => by simp; omega) (fun q => by cases q)⟩, by omega, by simp (disch := omega) [leS, hC, w64]⟩
               · exact ⟨i + 1, false, ⟨by omega, st false (fun _ => by simp; omega) (fun q => by cases q)⟩, by omega, by simp (disch := omega) [leS, hC, w64]⟩)
        | false =>
          simp (disch := omega) [hlt, w64, -Bool.exists_bool]
          repeat (refine And.intro (by omega) ?_)
          exact ⟨i + 1, false, ⟨by omega, st false (fun q => by cases q) (fun _ => rfl)⟩, by omega, by simp (disch := omega) [leS, hC, w64]⟩
      · obtain rfl : i = c.nums.length := by omega
        simp
        refine ⟨fun q => no (by rw [hx.2 q]; simp), fun q => subN (yes ?_)⟩
        obtain ⟨a1, a2⟩ := hx.1 q
        rw [k5g, ← e0, a1, Bool.true_and]
        have hl := hx0 a1
        refine List.all_eq_true.2 fun j hj => ?_
        have := a2 j (by simp at hj; omega)
        simp [this.1, this.2]
  · rw [k6f k1 k2 k3 k4 k5]; simp
end Go.Proofs
namespace Go.Proofs
open Go.Sv Go Go.Tb Go.Pl Go.Ut Go.Fn
set_option maxRecDepth 10000 in
set_option maxHeartbeats 2000000 in
theorem qValid_ok (p : Puz) (h : FewP p) : PureF Tryz.prog 13 [puzV p] (erV (vPuz p)) := by
  have h1 := h.v
  have h2 := h.c
  have e1 : ¬ (60 : Int) < p.values.length := by omega
  have e2 : ¬ (100 : Int) < p.cons.length := by omega
  have f1 : (p.values.length : Int) ≤ 60 := by omega
  have f2 : (p.cons.length : Int) ≤ 100 := by omega
  have hb : (if vLs p.values = 0 then vCs p.values.length p.cons else vLs p.values) = vPuz p := rfl
  generalize vPuz p = b at *
  refine pure_enter Tryz.func13 rfl (by simp) (fun C hC => ?_)
  simp [e1, e2, f1, f2]
  refine CodeJ.frz 0 rfl (by simp) ?_
  simp [frzS, tset]
  refine CodeJ.loop (ι := Nat) (fun i => ⟨74, [(1, .rop (puzV p) 0), (22, .ro (p.values.map ilv)), (23, iv p.values.length), (24, iv i)], []⟩)
    (fun i => i ≤ p.values.length ∧ vLs p.values = vLs (p.values.drop i)) (fun i => p.values.length - i) 0 ?_ ?_ ?_
  · simp
  · simp [leS, hC]
  rintro i ⟨hi, hv⟩
  by_cases hlt : i < p.values.length
  · have hl := h.l _ (gt_mem hlt)
    have lv := lget_ilv hlt
    rw [drop_gt hlt] at hv
    simp only [vLs] at hv
    generalize gt p.values i = l at *
    have e5 : ¬ (200 : Int) < l.length := by omega
    have e6 : (l.length : Int) ≤ 200 := by omega
    simp (disch := omega) [hlt, lv, e5, e6]
    repeat (refine And.intro (by omega) ?_)
    refine CodeJ.loop (ι := Nat) (fun k => ⟨74, [(1, .rop (puzV p) 0), (22, .ro (p.values.map ilv)), (23, iv p.values.length), (24, iv i), (4, ilv l), (32, ilv l), (33, iv l.length), (34, iv k)], []⟩)
      (fun k => k ≤ l.length ∧ vL none l = vL (prevO l k) (l.drop k)) (fun k => l.length - k) 0 ?_ ?_ ?_
    · simp [prevO]
    · simp [leS, hC]
    rintro k ⟨hk, hw⟩
    by_cases hkl : k < l.length
    · have lk := lget_iv hkl
      rw [drop_gt hkl] at hw
      have lp : 0 < k → lget (l.map iv) (k - 1) = iv (gt l (k - 1)) := fun q => lget_iv (by omega)
      have two : badN (gt l k) = true → erV b = erV 2 := fun q => by
        simp only [vL, q, if_true] at hw
        rw [hw] at hv
        rw [← hb, hv]; rfl
      simp (disch := omega) [hkl, lk]
      repeat (refine And.intro (by omega) ?_)
      have cont : badN (gt l k) = false → vL none l = match prevO l k with | none => vL (some (gt l k)) (l.drop (k + 1)) | some q => if gt l k ≤ q then 4 else vL (some (gt l k)) (l.drop (k + 1)) := fun q => by
        rw [hw]; simp only [vL, q]; rfl
      unfold badN at two cont
      refine ⟨fun q => ⟨fun q' => ?_, fun q' => ?_⟩, fun q => ?_⟩
      · rw [two (by simp; omega), erV_2]
      · have c1 := cont (by simp; omega)
        by_cases k0 : k = 0
        · subst k0
          simp (disch := omega) [w64]
          repeat (refine And.intro (by omega) ?_)
          exact ⟨0 + 1, ⟨by omega, by simpa [prevO] using c1⟩, by omega, by simp (disch := omega) [leS, hC, w64]⟩
        · have kp : 0 < (k : Int) := by omega
          have e7 : ¬ (k : Int) ≤ 0 := by omega
          have e8 : ((k : Int) - 1).toNat = k - 1 := by omega
          rw [show prevO l k = some (gt l (k - 1)) by cases k with | zero => omega | succ k => rfl] at c1
          simp only at c1
          simp (disch := omega) [kp, e7, hkl, lk, w64, e8, lp]
          repeat (refine And.intro (by omega) ?_)
          refine ⟨fun _ => ⟨by omega, fun q' => ?_, fun q' => ?_⟩, fun q' => absurd q' k0⟩
          · rw [if_pos q'] at c1
            rw [c1] at hv
            rw [← hb, hv]; rfl
          · rw [if_neg (by omega)] at c1
            exact ⟨k + 1, ⟨by omega, c1⟩, by omega, by simp (disch := omega) [leS, hC, w64]⟩
      · rw [two (by simp; omega), erV_2]
    · obtain rfl : k = l.length := by omega
      rw [List.drop_length] at hw
      simp only [vL] at hw
      rw [hw, if_pos rfl] at hv
      simp
      exact ⟨i + 1, ⟨by omega, hv⟩, by omega, by simp (disch := omega) [leS, hC, w64]⟩
  · obtain rfl : i = p.values.length := by omega
    rw [List.drop_length] at hv
    simp only [vLs] at hv
    rw [hv, if_pos rfl] at hb
    simp
    refine CodeJ.loop (ι := Nat) (fun i => ⟨74, [(1, .rop (puzV p) 0), (61, .ro (p.cons.map conV)), (62, iv p.cons.length), (63, iv i)], []⟩)
      (fun i => i ≤ p.cons.length ∧ vCs p.values.length p.cons = vCs p.values.length (p.cons.drop i)) (fun i => p.cons.length - i) 0 ?_ ?_ ?_
    · simp
    · simp [leS, hC]
    rintro i ⟨hi, hw⟩
    by_cases hlt : i < p.cons.length
    · have g := qvalid_ok p h1 _ (h.k _ (gt_mem hlt))
      have lc := lget_conV hlt
      rw [drop_gt hlt] at hw
      simp only [vCs] at hw
      have cs := vC_cases p.values.length (gt p.cons i)
      generalize vC p.values.length (gt p.cons i) = v at *
      generalize gt p.cons i = c at *
      simp (disch := omega) [hlt, lc]
      repeat (refine And.intro (by omega) ?_)
      refine callS (g) (by simp) ?_
      rcases cs with e | e | e <;> subst e
      · simp [erV_0]
        exact ⟨i + 1, ⟨by omega, by simpa using hw⟩, by omega, by simp (disch := omega) [leS, hC, w64]⟩
      · simp [erV_2]
        rw [← hb, hw]; simp [erV_2]
      · simp [erV_4]
        rw [← hb, hw]; simp [erV_4]
    · obtain rfl : i = p.cons.length := by omega
      rw [List.drop_length] at hw
      simp only [vCs] at hw
      simp
      rw [← hb, hw]; simp [erV_0]
end Go.Proofs

