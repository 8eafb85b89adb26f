/- What matrix.take leaves behind. A text of the prover's own. -/
import Derived.Test.YtilpfpephcngbaaGreatDoorMMr
import Derived.Test.YtilpfpephcngbaaGreatDoorMVe
namespace Go.Mx
open Go Go.Sv Go.Pl Go.Proofs Go.Tb Go.Ut
/-- the first i elements done -/
def subP (r o : List Rat) (y : Rat) (i : Nat) : List Rat := (List.range r.length).map fun j => if j < i then gt r j - gt o j * y else gt r j
@[simp] theorem subP_len (r o : List Rat) (y : Rat) (i : Nat) : (subP r o y i).length = r.length := by simp [subP]
theorem gt_subP {r o : List Rat} {y : Rat} {i j : Nat} (h : j < r.length) : gt (subP r o y i) j = if j < i then gt r j - gt o j * y else gt r j := by unfold subP; rw [gt_range _ h]
theorem subP_zero (r o : List Rat) (y : Rat) : subP r o y 0 = r := ext_gt' (by simp) fun j h => by rw [gt_subP (by simpa using h)]; simp
theorem subP_end (r o : List Rat) (y : Rat) : subP r o y r.length = subR r o y := ext_gt' (by simp) fun j h => by
  have h : j < r.length := by simpa using h
  rw [gt_subP h, gt_subR h, if_pos h]
theorem subR_zero (r o : List Rat) : subR r o 0 = r := ext_gt' (by simp) fun j h => by
  rw [gt_subR (by simpa using h), Rat.mul_zero, Rat.sub_eq_add_neg, Rat.neg_zero, Rat.add_zero]
theorem subP_set {r o : List Rat} {y : Rat} {i : Nat} (h : i < r.length) : (subP r o y i).set i (gt r i - gt o i * y) = subP r o y (i + 1) := ext_gt' (by simp) fun j hj => by
  have hj : j < r.length := by simpa using hj
  rw [gt_set (by simpa using hj), gt_subP hj, gt_subP hj]
  by_cases e : i = j
  · subst e; simp
  · rw [if_neg e]
    by_cases l : j < i
    · rw [if_pos l, if_pos (by omega)]
    · rw [if_neg l, if_neg (by omega)]
theorem subP_skip {r o : List Rat} {y : Rat} {i : Nat} (h : i < r.length) (hz : gt o i = 0) : subP r o y (i + 1) = subP r o y i := by
  rw [← subP_set h, hz, Rat.zero_mul, Rat.sub_eq_add_neg, Rat.neg_zero, Rat.add_zero]
  refine ext_gt' (by simp) fun j hj => ?_
  have hj : j < r.length := by simpa using hj
  rw [gt_set (by simpa using hj), gt_subP hj]
  by_cases e : i = j
  · subst e; simp
  · rw [if_neg e]
end Go.Mx
namespace Go.Proofs
open Go.Sv Go Go.Tb Go.Pl Go.Ut Go.Mx
set_option maxRecDepth 10000 in
theorem qTake_ok (r o : List Rat) (y : Rat) (hl : o.length = r.length) (hn : r.length ≤ 1048576) (hr : ∀ j, j < r.length → qok (gt r j)) (ho : ∀ j, j < r.length → qok (gt o j)) (hy : qok y) (hp : ∀ j, j < r.length → qok (gt o j * y)) :
    EffC Tryz.prog 70 [.view 0 0 r.length, .view 1 0 r.length, rsv y] [some ⟨4, r.map rsv, false⟩, some ⟨4, o.map rsv, false⟩] []
      (fun T x => T = [some ⟨4, (subR r o y).map rsv, false⟩, some ⟨4, o.map rsv, false⟩] ∧ x = .tup []) := by
  refine eff_enter Tryz.func70 rfl (by simp) (fun C hC => ?_)
  simp
  refine callS (qSign_ok y) (by simp) ?_
  simp [Int.sign_eq_zero_iff_zero, Rat.num_eq_zero]
  refine ⟨fun z => ?_, fun z => ?_⟩
  · rw [z]
    simp [subR_zero]
    exact ⟨_, _, ⟨rfl, rfl⟩, rfl, by simp, by simp, by simp [ltM, ltL_map]⟩
  · refine CodeJ.loopL (ι := Nat) (fun i => ⟨36, [(0, .view 0 0 r.length), (1, .view 1 0 r.length), (5, .ptr 2 0 0), (11, iv r.length), (12, iv i)], [some ⟨4, (subP r o y i).map rsv, false⟩, some ⟨4, o.map rsv, false⟩, some ⟨4, [rsv y], false⟩]⟩)
      (fun i => i ≤ r.length) (fun i => r.length - i) 0 (by simp) ?_ ?_
    · simp [leS, hC, subP_zero]
    · rintro i hi
      by_cases hlt : i < r.length
      · have q1 := lget_r (l := subP r o y i) (i := i) (by simpa using hlt)
        have q2 := lget_r (l := o) (i := i) (by omega)
        rw [gt_subP hlt, if_neg (by omega)] at q1
        simp (disch := omega) [hlt, q2, hl]
        repeat (refine And.intro (by omega) ?_)
        refine callS (qSign_ok _) (by simp) ?_
        simp (disch := omega) [w64, Int.sign_eq_zero_iff_zero, Rat.num_eq_zero]
        repeat (refine And.intro (by omega) ?_)
        refine ⟨fun z => ?_, fun z => ?_⟩
        · refine CodeJ.draw (.qs [0, 1, 2, 3, 4, 5, 6, 7, 8, 9, 10] <| .l 11 [] <| .l 12 [] <| .qs [13] <| .l 14 [0] <| .nil) (by kernel_rfl) (by kernel_rfl) (by simp) ?_
          simp (disch := omega) [hlt, q1, q2, hl]
          repeat (refine And.intro (by omega) ?_)
          refine callS (qMul_ok _ _ (ho i hlt) hy) (by simp) ?_
          simp (disch := omega) [hlt, q1, q2, hl]
          repeat (refine And.intro (by omega) ?_)
          refine callS (qSub_ok _ _ (hr i hlt) (hp i hlt)) (by simp) ?_
          simp (disch := omega) [hlt, q1, q2, hl, w64]
          repeat (refine And.intro (by omega) ?_)
          have e : lset ((subP r o y i).map rsv) i (rsv (gt r i - gt o i * y)) = (subP r o y (i + 1)).map rsv := by rw [lset_eq, ← List.map_set, subP_set hlt]
          exact ⟨i + 1, by omega, by omega, Le.syn (by simp (disch := omega) [leS, hC, w64, e])⟩
        · exact ⟨i + 1, by omega, by omega, Le.syn (by simp (disch := omega) [leS, hC, w64, subP_skip hlt z])⟩
      · obtain rfl : i = r.length := by omega
        simp [subP_end]
        exact ⟨_, _, ⟨rfl, rfl⟩, rfl, by simp, by simp, by simp [ltM, ltL_map]⟩
end Go.Proofs

