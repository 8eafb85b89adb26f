/- What the law MatrixReduced returns. A text of the prover's own. -/
import Derived.Test.YtilpfpephcngbaaGreatDoorMMw
import Derived.Test.YtilpfpephcngbaaGreatDoorMMt
namespace Go.Mx
open Go Go.Sv Go.Pl Go.Proofs Go.Tb Go.Ut
def tabX (t : List (List ByteArray)) : List SV := if okT t then (tabs t).map qlv else []
theorem tabX_eq (t : List (List ByteArray)) : tabsP t = .tup [.ro (tabX t), .val (.bool (okT t))] := by
  unfold tabsP tabX; cases okT t <;> simp
theorem width_eq (a : List (List Rat)) : ∃ w : Int, widthQ a = .tup [.val (.int .i64 w), .val (.bool (isTab a))] ∧ (isTab a = true → w = (wide a : Nat)) := by
  unfold widthQ
  by_cases h : a = []
  · subst h; exact ⟨0, by simp [isTab], fun _ => rfl⟩
  · rw [if_neg h, isTab_rect a h]
    cases hr : rect a with
    | true => exact ⟨_, by simp, fun _ => rfl⟩
    | false => exact ⟨0, by simp, by simp⟩
theorem gt_tabs {t : List (List ByteArray)} {i : Nat} (h : i < t.length) : gt (tabs t) i = nums (gt t i) := by simp [gt, tabs, h]
theorem wide_le {t : List (List ByteArray)} (h : Tb.Few t) : wide (tabs t) ≤ 6 := by
  unfold wide
  by_cases h0 : 0 < t.length
  · rw [gt_tabs h0, nums_len]; exact (h.r 0 h0).1
  · have : t = [] := List.length_eq_zero_iff.1 (by omega)
    subst this; simp [gt, tabs]; exact Nat.zero_le _
theorem isTab_at {a : List (List Rat)} (h : isTab a = true) {i : Nat} (hi : i < a.length) : (gt a i).length = wide a := by
  simp only [isTab, Bool.and_eq_true] at h
  exact (of_decide_eq_true (List.all_eq_true.1 h.2 _ (gt_mem hi))).1
theorem few_row {t : List (List ByteArray)} (h : Tb.Few t) : ∀ r ∈ tabs t, r.length ≤ 1048576 := fun r hr => by
  obtain ⟨i, hi, rfl⟩ := List.getElem_of_mem hr
  have e : (tabs t)[i] = gt (tabs t) i := gt_get hi
  rw [tabs_len] at hi
  rw [e, gt_tabs hi, nums_len]
  have := (h.r i hi).1
  omega
theorem tw_of {t : List (List ByteArray)} (h : Tb.Few t) (ht : isTab (tabs t) = true) : Tw t.length (wide (tabs t)) 2200 (tabs t) where
  l := by rw [tabs_len]
  r := fun i hi => isTab_at ht (by rw [tabs_len]; exact hi)
  q := fun i j hi hj => by
    have hw := isTab_at ht (i := i) (by rw [tabs_len]; exact hi)
    rw [gt_tabs hi] at hw ⊢
    rw [Go.Ut.gt_nums (by rw [nums_len] at hw; omega)]
    exact qw_qrd _
theorem oka_of {n w W : Nat} {m : List (List Rat)} (h : Tw n w W m) (hn : n ≤ 1048576) (hw : w ≤ 1048576) (hW : W ≤ 10000000000) : OKa m where
  n := by rw [h.l]; exact hn
  r := fun r hr => by
    obtain ⟨i, hi, rfl⟩ := List.getElem_of_mem hr
    have hi' : i < n := by rw [← h.l]; exact hi
    rw [gt_get hi]
    refine ⟨by rw [h.r i hi']; exact hw, fun q hq => ?_⟩
    obtain ⟨j, hj, rfl⟩ := List.getElem_of_mem hq
    rw [gt_get hj]
    exact qok_of (h.q i j hi' (by rw [← h.r i hi']; exact hj)) hW
theorem rt_len {a : List (List Rat)} (h : OKa a) : ∀ r ∈ rtxts a, r.length ≤ 1048576 := fun r hr => by
  obtain ⟨i, hi, rfl⟩ := List.getElem_of_mem hr
  rw [gt_get hi]
  rw [rtxts_len] at hi
  rw [gt_rtxts hi, txts_len]
  exact (h.r _ (gt_mem hi)).n
end Go.Mx
namespace Go.Proofs
open Go.Sv Go Go.Tb Go.Pl Go.Ut Go.Mx
theorem codedM_ok {c : Nat} (hc : 0 < c) (hc' : c ≤ 10) (n : Int) : PureE Tryz.prog 16 [erV c, iv n] (fun x => x = .val (.bool (decide ((c : Int) = n)))) := by
  refine pureE_enter Tryz.func16 rfl (by simp) (fun C hC hX hE => ?_)
  refine CodeJ.go ?_
  have cs := codeS_ok (j := c - 1) (by omega)
  have e : erV c = .sen sent (gs (c - 1)) := by unfold erV; rw [if_neg (by omega)]
  rw [show c - 1 + 1 = c by omega] at cs
  rw [e]
  simp
  refine callE cs hE hX (by simp) (fun x hx => ?_)
  subst hx
  simp
theorem sameIntsM_ok (a : List Nat) (h : a.length ≤ 1048576) : PureF Tryz.prog 20 [.ro (a.map natV), .ro (a.map natV)] (bov true) := by
  refine pure_enter Tryz.func20 rfl (by simp) (fun C hC => ?_)
  simp
  refine CodeJ.loopL (ι := Nat) (fun i => ⟨26, [(0, .ro (a.map natV)), (1, .ro (a.map natV)), (5, iv i)], []⟩)
    (fun i => i ≤ a.length) (fun i => a.length - i) 0 (by simp) ?_ ?_
  · simp [leS, hC]
  · rintro i hi
    by_cases hlt : i < a.length
    · have e := lget_m natV hlt
      simp (disch := omega) [hlt, e]
      repeat (refine And.intro (by omega) ?_)
      refine CodeJ.draw (.qs [0, 1, 2, 3, 4, 5, 6, 7, 8] <| .nil) (by kernel_rfl) (by kernel_rfl) (by simp) ?_
      simp (disch := omega) [hlt, e, w64]
      repeat (refine And.intro (by omega) ?_)
      exact ⟨i + 1, by omega, by omega, Le.syn (by simp (disch := omega) [leS, hC, w64])⟩
    · obtain rfl : i = a.length := by omega
      simp
theorem qReducedE_ok (a : List (List Rat)) (h : isTab a = false) (na : a.length ≤ 1048576) (ha : ∀ r ∈ a, r.length ≤ 1048576) : PureF Tryz.prog 14 [.ro (a.map rlv)] (.tup [.ro [], .ro [], erV 4]) := by
  have g1 := width_ok a na ha
  obtain ⟨w, e1, -⟩ := width_eq a
  rw [e1, h] at g1
  refine pure_enter Tryz.func14 rfl (by simp) (fun C hC => ?_)
  simp
  refine callS (g1) (by simp) ?_
  simp
  refine CodeJ.draw (.qs [0, 1, 2, 3] <| .nil) (by kernel_rfl) (by kernel_rfl) (by simp) ?_
  simp
  rfl
set_option maxRecDepth 20000 in
theorem matrixReduced_ok (l : List (List ByteArray)) (hl : SmT l) : PureE Tryz.prog 3 [.ro (l.map tsv)] (fun x => x = .val (.bool true)) := by
  have n1 := hl.n
  have g1 := rRows_ok l hl
  rw [tabX_eq] at g1
  refine pureE_enter Tryz.func3 rfl (by simp) (fun C hC hX hE => ?_)
  refine CodeJ.go ?_
  simp
  refine callS (g1) (by simp) ?_
  simp
  refine callP (few6_ok l hl) (by simp) ?_
  rintro x ⟨b1, rfl, f1⟩
  simp
  refine fun o1 b1' => ?_
  have f := f1 b1'
  have g2 := pRows_ok l hl
  rw [show tabsQ l = .tup [.ro ((tabs l).map rlv), .val (.bool true)] by simp [tabsQ, o1]] at g2
  have r1 := few_row f
  have m1 := f.n
  have g3 := rIsTable_ok (tabs l) (by rw [tabs_len]; omega) r1
  have eX : tabX l = (tabs l).map qlv := by unfold tabX; rw [if_pos o1]
  rw [eX]
  refine callS (g2) (by simp) ?_
  simp
  by_cases ht : isTab (tabs l) = true
  · have tw := tw_of f ht
    have hw := wide_le f
    have g4 : widthQ (tabs l) = .tup [.val (.int .i64 (wide (tabs l) : Nat)), .val (.bool true)] := by
      obtain ⟨w, e1, e2⟩ := width_eq (tabs l)
      rw [e1, ht, e2 ht]
    have g5 := qReduced_ok (tabs l) l.length (wide (tabs l)) tw m1 (by omega) g4
    have g6 := rReduced_ok (tabs l) l.length (wide (tabs l)) tw m1 (by omega) rfl
    have ra := redAt_ok tw (wide (tabs l)) (by omega)
    have p5 := pow5_le ra.2 m1
    have ok1 := oka_of ra.1 (by omega) (by omega) (by omega)
    have ok2 := oka_of tw (by omega) (by omega) (by omega)
    have l1 := ok1.n
    have l2 := ok2.n
    rw [ht] at g3
    generalize redAt (tabs l) (wide (tabs l)) = s at *
    refine callS (g5) (by simp) ?_
    simp
    refine callS (g3) (by simp) ?_
    simp
    refine callS (g6) (by simp) ?_
    simp
    refine callS (pRowTexts_ok s.1 ok1) (by simp) ?_
    simp
    refine callS (sameRows_ok (rtxts s.1) s.1 (by simpa using l1) (rt_len ok1) ok1) (by simp) ?_
    simp
    refine callS (sameIntsM_ok s.2 (by omega)) (by simp) ?_
    simp
    refine callS (pRowTexts_ok (tabs l) ok2) (by simp) ?_
    simp
    refine callS (sameRows_ok (rtxts (tabs l)) (tabs l) (by simpa using l2) (rt_len ok2) ok2) (by simp) ?_
    simp
  · have ht' : isTab (tabs l) = false := by simpa using ht
    have g5 := qReducedE_ok (tabs l) ht' (by rw [tabs_len]; omega) r1
    rw [ht'] at g3
    refine callS (g5) (by simp) ?_
    simp
    refine callS (g3) (by simp) ?_
    simp
    refine callE (codedM_ok (c := 4) (by omega) (by omega) 4) hE hX (by simp) (fun x hx => ?_)
    subst hx
    simp
end Go.Proofs

