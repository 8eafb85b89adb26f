/- What the law MatrixProduct returns. A text of the prover's own. -/
import Derived.Test.YtlkaaaoeemejoaaGreatDoorQMa
import Derived.Test.YtlkaaaoeemejoaaGreatDoorQMf
import Derived.Test.YtlkaaaoeemejoaaGreatDoorQEs
import Derived.Test.YtlkaaaoeemejoaaGreatDoorQQo
namespace Go.Tb
open Go Go.Sv Go.Pl Go.Proofs
theorem gt_get {α : Type} [Inhabited α] {l : List α} {i : Nat} (h : i < l.length) : l[i] = gt l i := by
  unfold gt; rw [List.getD_eq_getElem?_getD, List.getElem?_eq_getElem h]; rfl
def tabX (t : List (List ByteArray)) : List SV := if okT t then (tabs t).map qlv else []
theorem tabX_eq (t : List (List ByteArray)) : tabsP t = .tup [.ro (tabX t), .val (.bool (okT t))] := by
  unfold tabsP tabX; cases okT t <;> simp
theorem width_eq (a : List (List Rat)) : ∃ w : Int, widthQ a = .tup [.val (.int .i64 w), .val (.bool (isTab a))] ∧ (isTab a = true → w = (wide a : Nat)) ∧ 0 ≤ w ∧ w ≤ (wide a : Nat) := by
  unfold widthQ
  by_cases h : a = []
  · subst h; exact ⟨0, by simp [isTab], fun _ => rfl, by omega, by omega⟩
  · rw [if_neg h, isTab_rect a h]
    cases hr : rect a with
    | true => exact ⟨_, by simp, fun _ => rfl, by omega, by omega⟩
    | false => exact ⟨0, by simp, by simp, by omega, by omega⟩
theorem gt_nums {l : List ByteArray} {i : Nat} (h : i < l.length) : gt (nums l) i = num (gt l i) := by simp [gt, nums, h]
theorem gt_tabs {t : List (List ByteArray)} {i : Nat} (h : i < t.length) : gt (tabs t) i = nums (gt t i) := by simp [gt, tabs, h]
theorem wide_le {t : List (List ByteArray)} (h : Few t) : wide (tabs t) ≤ 6 := by
  unfold wide
  by_cases h0 : 0 < t.length
  · rw [gt_tabs h0, nums_len]; exact (h.r 0 h0).1
  · have : t = [] := List.length_eq_zero_iff.1 (by omega)
    subst this; simp [gt, tabs]; exact Nat.zero_le _
theorem isTab_at {a : List (List Rat)} (h : isTab a = true) {i : Nat} (hi : i < a.length) : (gt a i).length = wide a := by
  simp only [isTab, Bool.and_eq_true] at h
  exact (of_decide_eq_true (List.all_eq_true.1 h.2 _ (gt_mem hi))).1
theorem pq_of {l k : List (List ByteArray)} (hl : Few l) (hk : Few k) (h1 : isTab (tabs l) = true) (h2 : isTab (tabs k) = true) (h3 : wide (tabs l) = (tabs k).length) : PQ (tabs l) (tabs k) where
  na := by rw [tabs_len]; exact hl.n
  nb := by rw [tabs_len]; exact hk.n
  wa := fun i hi => by rw [isTab_at h1 hi, h3]
  wb := wide_le hk
  wr := fun i hi => isTab_at h2 hi
  qa := fun i j hi hj => by
    have hw := isTab_at h1 hi
    rw [tabs_len] at hi
    rw [gt_tabs hi] at hw ⊢
    rw [gt_nums (by rw [nums_len] at hw; omega)]
    exact qw_qrd _
  qb := fun i j hi hj => by
    have hw := isTab_at h2 hi
    rw [tabs_len] at hi
    rw [gt_tabs hi] at hw ⊢
    rw [gt_nums (by rw [nums_len] at hw; omega)]
    exact qw_qrd _
theorem few_row {t : List (List ByteArray)} (h : Few t) : ∀ r ∈ tabs t, r.length ≤ 1048576 := fun r hr => by
  obtain ⟨i, hi, rfl⟩ := List.getElem_of_mem hr
  have e : (tabs t)[i] = gt (tabs t) i := gt_get hi
  rw [tabs_len] at hi
  rw [e, gt_tabs hi, nums_len]
  have := (h.r i hi).1
  omega
theorem ok_prod {a b : List (List Rat)} (h : PQ a b) : OKa (prod a b) where
  n := by rw [prod_len]; have := h.na; omega
  r := fun r hr => by
    obtain ⟨i, hi, rfl⟩ := List.getElem_of_mem hr
    have e : (prod a b)[i] = gt (prod a b) i := gt_get hi
    rw [prod_len] at hi
    rw [e, gt_prod hi]
    have hw := h.wb
    refine ⟨by rw [prodRow_len]; omega, fun q hq => ?_⟩
    obtain ⟨j, hj, rfl⟩ := List.getElem_of_mem hq
    have e : (prodRow a b i)[j] = gt (prodRow a b i) j := gt_get hj
    rw [prodRow_len] at hj
    rw [e, gt_prodRow hj]
    have := h.nb
    exact qok_of (qw_dot h hi hj _ (Nat.le_refl _)) (by omega)
theorem rt_len {a b : List (List Rat)} (h : PQ a b) : ∀ r ∈ rtxts (prod a b), r.length ≤ 1048576 := fun r hr => by
  obtain ⟨i, hi, rfl⟩ := List.getElem_of_mem hr
  have e : (rtxts (prod a b))[i] = gt (rtxts (prod a b)) i := gt_get hi
  rw [rtxts_len, prod_len] at hi
  rw [e, gt_rtxts (by simpa using hi), txts_len, gt_prod hi, prodRow_len]
  have := h.wb
  omega
end Go.Tb
namespace Go.Proofs
open Go.Sv Go Go.Tb Go.Pl
theorem codedN_ok (n : Int) : PureF Tryz.prog 25 [.val .nilIface, .val (.int .i64 n)] (.val (.bool (decide (n = 0)))) := by
  refine pure_enter Tryz.func25 rfl (by simp) (fun C hC => ?_)
  simp
  refine callS codeN_ok (by simp) ?_
  simp [eq_comm]
theorem coded1_ok {j : Nat} (hj : j < 10) (n : Int) : PureE Tryz.prog 25 [.sen sent (gs j), .val (.int .i64 n)] (fun x => x = .val (.bool (decide (((j + 1 : Nat) : Int) = n)))) := by
  refine pureE_enter Tryz.func25 rfl (by simp) (fun C hC hX hE => ?_)
  refine CodeJ.go ?_
  have cs := codeS_ok hj
  simp
  refine callE cs hE hX (by simp) (fun x hx => ?_)
  subst hx
  simp
theorem qProductE_ok (a b : List (List Rat)) (h : ¬ (isTab a = true ∧ isTab b = true ∧ wide a = b.length)) (ha : ∀ r ∈ a, r.length ≤ 1048576) (hb : ∀ r ∈ b, r.length ≤ 1048576) (na : a.length ≤ 1048576) (nb : b.length ≤ 1048576) :
    PureF Tryz.prog 22 [.ro (a.map rlv), .ro (b.map rlv)] (.tup [.ro [], .sen sent (gs 3)]) := by
  have g1 := width_ok a (by omega) ha
  have g2 := width_ok b (by omega) hb
  obtain ⟨w, e1, k1, k2, k3⟩ := width_eq a
  obtain ⟨w', e2, k1', k2', k3'⟩ := width_eq b
  rw [e1] at g1
  rw [e2] at g2
  refine pure_enter Tryz.func22 rfl (by simp) (fun C hC => ?_)
  simp
  refine callS g1 (by simp) ?_
  simp
  refine callS g2 (by simp) ?_
  cases h1 : isTab a with
  | false =>
    simp
    refine CodeJ.draw (.qs [0, 1, 2] <| .nil) (by kernel_rfl) (by kernel_rfl) (by simp) ?_
    simp
    rfl
  | true =>
    cases h2 : isTab b with
    | false =>
      simp
      refine CodeJ.draw (.qs [0, 1, 2] <| .nil) (by kernel_rfl) (by kernel_rfl) (by simp) ?_
      simp
      rfl
    | true =>
      have := k1 h1
      have h3 : w ≠ b.length := fun e => h ⟨h1, h2, by omega⟩
      simp [h3]
      refine CodeJ.draw (.qs [0, 1, 2] <| .nil) (by kernel_rfl) (by kernel_rfl) (by simp) ?_
      simp
      rfl
set_option maxRecDepth 20000 in
theorem matrixProduct_ok (l k : List (List ByteArray)) (hl : SmT l) (hk : SmT k) : PureE Tryz.prog 4 [.ro (l.map tsv), .ro (k.map tsv)] (fun x => x = .val (.bool true)) := by
  have n1 := hl.n
  have n2 := hk.n
  refine pureE_enter Tryz.func4 rfl (by simp) (fun C hC hX hE => ?_)
  refine CodeJ.go ?_
  simp
  have g1 := rRows_ok l hl
  have g2 := rRows_ok k hk
  rw [tabX_eq] at g1 g2
  refine callS g1 (by simp) ?_
  simp
  refine callS g2 (by simp) ?_
  simp
  refine callP (few6_ok l hl) (by simp) ?_
  rintro x ⟨b1, rfl, f1⟩
  simp
  refine callP (few6_ok k hk) (by simp) ?_
  rintro x ⟨b2, rfl, f2⟩
  cases o1 : okT l with
  | false => simp
  | true =>
    cases o2 : okT k with
    | false => simp
    | true =>
      cases b1 with
      | false => simp
      | true =>
        cases b2 with
        | false => simp
        | true =>
          have f1 := f1 rfl
          have f2 := f2 rfl
          have g3 := pRows_ok l hl
          have g4 := pRows_ok k hk
          rw [show tabsQ l = .tup [.ro ((tabs l).map rlv), .val (.bool true)] by simp [tabsQ, o1]] at g3
          rw [show tabsQ k = .tup [.ro ((tabs k).map rlv), .val (.bool true)] by simp [tabsQ, o2]] at g4
          have r1 := few_row f1
          have r2 := few_row f2
          have m1 := f1.n
          have m2 := f2.n
          have g5 := rIsTable_ok (tabs l) (by rw [tabs_len]; omega) r1
          have g6 := rIsTable_ok (tabs k) (by rw [tabs_len]; omega) r2
          have g7 := rWide_ok (tabs l) (by rw [tabs_len]; omega)
          simp [tabX, o1, o2]
          refine callS g3 (by simp) ?_
          simp
          refine callS g4 (by simp) ?_
          simp
          by_cases hg : isTab (tabs l) = true ∧ isTab (tabs k) = true ∧ wide (tabs l) = (tabs k).length
          · obtain ⟨h1, h2, h3⟩ := hg
            have hp := pq_of f1 f2 h1 h2 h3
            have w1 : widthQ (tabs l) = .tup [.val (.int .i64 (tabs k).length), .val (.bool true)] := by
              obtain ⟨w, e1, e2, -⟩ := width_eq (tabs l)
              rw [e1, h1, e2 h1, h3]
            have w2 : widthQ (tabs k) = .tup [.val (.int .i64 (wide (tabs k) : Nat)), .val (.bool true)] := by
              obtain ⟨w, e1, e2, -⟩ := width_eq (tabs k)
              rw [e1, h2, e2 h2]
            refine callS (qProduct_ok _ _ hp w1 w2 r1 r2) (by simp) ?_
            simp
            refine callS g5 (by simp) ?_
            simp
            refine callS g6 (by simp) ?_
            rw [h1, h2]
            simp
            refine callS g7 (by simp) ?_
            rw [h3]
            simp
            refine callS (pRowTexts_ok _ (ok_prod hp)) (by simp) ?_
            simp
            refine callS (rProduct_ok _ _ hp) (by simp) ?_
            simp
            refine callS (sameRows_ok (rtxts (prod (tabs l) (tabs k))) (prod (tabs l) (tabs k)) (by simp; omega) (rt_len hp) (ok_prod hp)) (by simp) ?_
            simp
          · refine callS (qProductE_ok _ _ hg r1 r2 (by rw [tabs_len]; omega) (by rw [tabs_len]; omega)) (by simp) ?_
            have c4 := coded1_ok (j := 3) (by omega) 4
            simp
            refine callS g5 (by simp) ?_
            simp
            refine callS g6 (by simp) ?_
            cases h1 : isTab (tabs l) with
            | false =>
              simp
              refine callE c4 hE hX (by simp) (fun x hx => ?_)
              subst hx
              simp
            | true =>
              cases h2 : isTab (tabs k) with
              | false =>
                simp
                refine callE c4 hE hX (by simp) (fun x hx => ?_)
                subst hx
                simp
              | true =>
                have h3 : ¬ wide (tabs l) = (tabs k).length := fun e => hg ⟨h1, h2, e⟩
                rw [tabs_len] at h3
                have h3' : ¬ ((wide (tabs l) : Nat) : Int) = k.length := by omega
                simp
                refine callS g7 (by simp) ?_
                simp [h3, h3']
                refine callE c4 hE hX (by simp) (fun x hx => ?_)
                subst hx
                simp
end Go.Proofs

