/- The document's determinant: by its first column. What the document does with tables: times a column, turned, with another column. A text of the prover's own. -/
import Derived.Test.YtnimjdcaajmfcaaGreatDoorPDu
import Derived.Test.YtnimjdcaajmfcaaGreatDoorPMv
import Derived.Test.YtnimjdcaajmfcaaGreatDoorPVr
import Derived.Test.YtnimjdcaajmfcaaGreatDoorPMt
namespace Go.Dt
open Go Go.Sv Go.Pl Go.Proofs Go.Tb Go.Ut Go.Mx
def ofL (a : List (List Rat)) : Mat := fun r c => gt (gt a r) c
/-- to all other rows so much of row k is added -/
theorem det_addsO {n k : Nat} {B : Mat} (hk : k < n) (a : Nat → Rat) : ∀ m, m ≤ n → det n (fun i c => if i ≠ k ∧ i < m then B i c + a i * B k c else B i c) = det n B
  | 0, _ => det_congr fun r c _ _ => by rw [if_neg (fun q => by omega)]
  | m + 1, hm => by
    by_cases h : m = k
    · rw [← det_addsO (B := B) hk a m (by omega)]
      refine det_congr fun r c _ _ => ?_
      by_cases q : r ≠ k ∧ r < m
      · rw [if_pos q, if_pos ⟨q.1, by omega⟩]
      · rw [if_neg q, if_neg (fun w => q ⟨w.1, by omega⟩)]
    · have e := det_add (n := n) (A := fun i c => if i ≠ k ∧ i < m then B i c + a i * B k c else B i c) (p := m) (q := k) (by omega) hk h (a m)
      rw [det_addsO hk a m (by omega)] at e
      rw [← e]
      refine det_congr fun r c _ _ => ?_
      simp only [setR]
      by_cases e1 : r = m
      · subst e1
        rw [if_pos rfl, if_pos ⟨h, by omega⟩, if_neg (fun q => by omega), if_neg (fun q => q.1 rfl)]
      · rw [if_neg e1]
        by_cases e2 : r ≠ k ∧ r < m
        · rw [if_pos e2, if_pos ⟨e2.1, by omega⟩]
        · rw [if_neg e2, if_neg (fun q => e2 ⟨q.1, by omega⟩)]
/-- the other rows, without the first column, less so much of that row -/
def minRow (m : List (List Rat)) (at' i : Nat) : List Rat := (subR (gt m i) (gt m at') (gt (gt m i) 0 / gt (gt m at') 0)).drop 1
def minL (m : List (List Rat)) (at' : Nat) : List (List Rat) := (List.range (m.length - 1)).map fun i => minRow m at' (sk at' i)
@[simp] theorem minL_len (m : List (List Rat)) (at' : Nat) : (minL m at').length = m.length - 1 := by simp [minL]
theorem gt_minL {m : List (List Rat)} {at' i : Nat} (h : i < m.length - 1) : gt (minL m at') i = minRow m at' (sk at' i) := by unfold minL; rw [gt_range _ h]
theorem gt_drop1 {l : List Rat} {c : Nat} : gt (l.drop 1) c = gt l (c + 1) := by cases l <;> simp [gt]
theorem sk_lt {n a i : Nat} (h : i < n) : sk a i < n + 1 := by unfold sk; split <;> omega
theorem sk_ne {a i : Nat} : sk a i ≠ a := by unfold sk; split <;> omega
theorem det_minL {m : List (List Rat)} {n at' : Nat} (hl : m.length = n + 1) (hr : ∀ i, i < n + 1 → (gt m i).length = n + 1) (ha : at' < n + 1) (hz : gt (gt m at') 0 ≠ 0) : det (n + 1) (ofL m) = sg at' * gt (gt m at') 0 * det n (ofL (minL m at')) := by
  rw [← det_addsO (B := ofL m) ha (fun i => -(gt (gt m i) 0 / gt (gt m at') 0)) (n + 1) (Nat.le_refl _)]
  rw [det_first (p := at') ha fun r hr' hne => by
    rw [if_pos ⟨hne, hr'⟩]
    unfold ofL
    have : gt (gt m r) 0 / gt (gt m at') 0 * gt (gt m at') 0 = gt (gt m r) 0 := Rat.div_mul_cancel hz
    grind]
  rw [if_neg (fun q => q.1 rfl)]
  congr 1
  refine det_congr fun r c hr' hc => ?_
  show (if sk at' r ≠ at' ∧ sk at' r < n + 1 then ofL m (sk at' r) (c + 1) + -(gt (gt m (sk at' r)) 0 / gt (gt m at') 0) * ofL m at' (c + 1) else ofL m (sk at' r) (c + 1)) = gt (gt (minL m at') r) c
  rw [if_pos ⟨sk_ne, sk_lt hr'⟩, gt_minL (by omega)]
  unfold minRow
  rw [gt_drop1, gt_subR (by rw [hr _ (sk_lt hr')]; omega)]
  unfold ofL; grind
theorem det_col0 {n : Nat} {A : Mat} (h : ∀ r, r < n + 1 → A r 0 = 0) : det (n + 1) A = 0 := det_zero (k := 0) (by omega) (fun r c _ _ hc => by omega) (fun r _ hr => h r hr)
theorem Tw.minL {n W : Nat} {m : List (List Rat)} (h : Tw (n + 1) (n + 1) W m) {at' : Nat} (ha : at' < n + 1) (h1 : 1 ≤ W) : Tw n n (5 * W) (minL m at') where
  l := by rw [minL_len, h.l]; omega
  r i hi := by
    rw [gt_minL (by rw [h.l]; omega)]
    unfold minRow
    rw [List.length_drop, subR_len, h.r _ (sk_lt hi)]; omega
  q i j hi hj := by
    have hs := sk_lt (a := at') hi
    rw [gt_minL (by rw [h.l]; omega)]
    unfold minRow
    rw [gt_drop1, gt_subR (by rw [h.r _ hs]; omega)]
    exact qw_mono (qw_sub (h.q _ _ hs (by omega)) (qw_mul (h.q _ _ ha (by omega)) (qw_div (h.q _ _ hs (by omega)) (h.q _ _ ha (by omega)) h1) (by omega))) (by omega)
/-! how wide a determinant is -/
def dw (W : Nat) : Nat → Nat
  | 0 => 1
  | n + 1 => 1 + (n + 1) * (W + dw W n + 1)
theorem qw_sgn {k : Nat} {q : Rat} (h : Proofs.qw k q) (i : Nat) : Proofs.qw k (Dt.sg i * q) := by
  unfold Dt.sg; split
  · rw [show (-1 : Rat) * q = -q by grind]; exact qw_neg h
  · rw [Rat.one_mul]; exact h
theorem qw_sumR {f : Nat → Rat} {V : Nat} : ∀ k, (∀ i, i < k → Proofs.qw V (f i)) → Proofs.qw (1 + k * (V + 1)) (sumR f k)
  | 0, _ => ⟨fw_zero _, fw_one (by omega)⟩
  | k + 1, h => by
    have h1 := qw_sumR k fun i hi => h i (by omega)
    refine qw_mono (qw_add h1 (h k (by omega))) ?_
    rw [Nat.add_mul]; omega
theorem qw_det {W : Nat} (hW : 1 ≤ W) : ∀ {n : Nat} {A : Mat}, (∀ r c, r < n → c < n → Proofs.qw W (A r c)) → Proofs.qw (dw W n) (det n A)
  | 0, _, _ => ⟨fw_one (Nat.le_refl 1), fw_one (Nat.le_refl 1)⟩
  | n + 1, A, h => by
    simp only [det]
    have hm := fun i (_ : i < n + 1) => qw_det hW (n := n) (A := minr A i) fun r c hr hc => by
      unfold minr
      exact h _ _ (by split <;> omega) (by omega)
    exact qw_mono (qw_sumR (n + 1) fun i hi => qw_mul (qw_sgn (h i 0 hi (by omega)) i) (hm i hi) (by omega)) (Nat.le_refl _)
theorem dw_mono (W : Nat) : ∀ {m n : Nat}, m ≤ n → dw W m ≤ dw W n
  | m, 0, h => by rw [show m = 0 by omega]; exact Nat.le_refl _
  | m, n + 1, h => by
    by_cases e : m = n + 1
    · rw [e]; exact Nat.le_refl _
    · have := dw_mono W (m := m) (n := n) (by omega)
      have h2 : W + dw W n + 1 ≤ (n + 1) * (W + dw W n + 1) := Nat.le_mul_of_pos_left _ (by omega)
      simp only [dw]; omega
theorem dw_six {n : Nat} (h : n ≤ 6) : dw 4403 n ≤ 8616181 := Nat.le_trans (dw_mono 4403 h) (by decide)
end Go.Dt
namespace Go.Proofs
open Go.Sv Go Go.Tb Go.Pl Go.Ut Go.Mx Go.Dt
set_option maxRecDepth 10000 in
theorem rMinor_ok {m : List (List Rat)} {n W at' : Nat} (h : Tw (n + 1) (n + 1) W m) (hn : n ≤ 1000) (h1 : 1 ≤ W) (h2 : W ≤ 1000000000) (ha : at' < n + 1) (hz : gt (gt m at') 0 ≠ 0) :
    PureF Tryz.prog 49 [.ro (m.map qlv), iv at'] (.ro ((minL m at').map qlv)) := by
  have hl := h.l
  have lt := lget_qlv (l := m) (i := at') (by omega)
  have wt := h.r at' ha
  have l0 := lget_q (l := gt m at') (i := 0) (by omega)
  refine pure_enter Tryz.func49 rfl (by simp) (fun C hC => ?_)
  simp
  refine CodeJ.nil 5 1 rfl ?_
  refine CodeJ.loopL (ι := Nat × Nat × List (List Rat)) (fun ⟨i, j, xs⟩ => ⟨47, [(0, .ro (m.map qlv)), (1, iv at'), (5, .view 0 0 xs.length), (6, iv i)], [some ⟨1, xs.map qlv, false⟩]⟩)
    (fun ⟨i, j, xs⟩ => i ≤ n + 1 ∧ j = (if at' < i then i - 1 else i) ∧ xs = (minL m at').take j) (fun ⟨i, j, xs⟩ => n + 1 - i) (0, 0, []) (by simp) ?_ ?_
  · simp [leS, hC]
  · rintro ⟨i, j, xs⟩ ⟨hi, hj, hx⟩
    have hm : (minL m at').length = n := by rw [minL_len, hl]; omega
    by_cases hlt : i < n + 1
    · have hlt' : (i : Int) < n + 1 := by omega
      have hlt2 : ¬ (n : Int) + 1 ≤ i := by omega
      by_cases e : i = at'
      · subst e
        simp (disch := omega) [hl, hlt', hlt2, w64]
        repeat (refine And.intro (by omega) ?_)
        exact ⟨i + 1, i, xs, ⟨by omega, by rw [if_pos (by omega)]; omega, by rw [hx, hj, if_neg (by omega)]⟩, by omega, Le.syn (by simp (disch := omega) [leS, hC, w64])⟩
      · have e' : ¬ (i : Int) = at' := by omega
        have li := lget_qlv (l := m) (i := i) (by omega)
        have wi := h.r i hlt
        have l1 := lget_q (l := gt m i) (i := 0) (by omega)
        have hjn : j < n := by rw [hj]; split <;> omega
        have hsk : sk at' j = i := by rw [hj]; unfold sk; split <;> split <;> omega
        have hx' := take_gt (l := minL m at') (i := j) (by omega)
        rw [← hx, gt_minL (by omega), hsk] at hx'
        have hxl : xs.length = j := by rw [hx]; simp; omega
        have q0 := h.q i 0 hlt (by omega)
        have q1 := h.q at' 0 ha (by omega)
        have q2 := qw_div q0 q1 h1
        simp (disch := omega) [hl, hlt', hlt2, e', e]
        repeat (refine And.intro (by omega) ?_)
        refine CodeJ.drawZ (.d 13 <| .qs [0, 1, 2, 3, 4, 5, 6, 7, 8, 9, 10, 11] <| .p 12 <| .b ( .l 14 [1] <| .nil )) (by kernel_rfl) (by kernel_rfl) (by simp) ?_
        simp (disch := omega) [hl, hlt, ha, lt, li, l0, l1, wt, wi]
        repeat (refine And.intro (by omega) ?_)
        refine callV (pQuo_ok _ _ (qok_of q0 (by omega)) (qok_of q1 (by omega)) hz) (by simp) ?_
        simp (disch := omega) [hl, hlt, ha, lt, li, wt, wi]
        repeat (refine And.intro (by omega) ?_)
        refine CodeJ.draw (.qs [0, 1, 2, 3, 4, 5, 6, 7, 8] <| .l 9 [] <| .qs [10] <| .nil) (by kernel_rfl) (by kernel_rfl) (by simp) ?_
        simp (disch := omega) [hl, hlt, ha, lt, li, wt, wi]
        repeat (refine And.intro (by omega) ?_)
        refine callS (rWithout_ok (gt m i) (gt m at') (gt (gt m i) 0 / gt (gt m at') 0) (by omega) (by omega) (fun j hj => qok_of (h.q i j hlt (by omega)) (by omega)) (fun j hj => qok_of (h.q at' j ha (by omega)) (by omega)) (qok_of q2 (by omega)) (fun j hj => qok_of (qw_mul (h.q at' j ha (by omega)) q2 (by omega)) (by omega))) (by simp) ?_
        have ls := lget_q (l := subR (gt m i) (gt m at') (gt (gt m i) 0 / gt (gt m at') 0)) (i := 0) (by simp; omega)
        have tk : ((subR (gt m i) (gt m at') (gt (gt m i) 0 / gt (gt m at') 0)).map qsv).take (n + 1) = (subR (gt m i) (gt m at') (gt (gt m i) 0 / gt (gt m at') 0)).map qsv := List.take_of_length_le (by simp; omega)
        have tl : ((subR (gt m i) (gt m at') (gt (gt m i) 0 / gt (gt m at') 0)).map qsv).tail = (minRow m at' i).map qsv := by unfold minRow; rw [List.drop_one, List.map_tail]
        simp (disch := omega) [wi, ls, w64, tk, tl]
        exact ⟨by omega, ⟨by simp [hC], by omega⟩, i + 1, j + 1, xs ++ [minRow m at' i], ⟨by omega, by rw [hj]; split <;> split <;> omega, hx'.symm⟩, by omega, Le.syn (by simp (disch := omega) [leS, hC, w64])⟩
    · obtain rfl : i = n + 1 := by omega
      have hjn : j = n := by rw [hj, if_pos (by omega)]; omega
      rw [hjn, List.take_of_length_le (by omega)] at hx
      simp [hl, hx, List.take_of_length_le]
theorem pow5w_le {e n : Nat} (h : e ≤ n) (hn : n ≤ 6) : 4403 * 5 ^ e ≤ 68796875 := by
  have : 5 ^ e ≤ 5 ^ 6 := Nat.pow_le_pow_right (by omega) (by omega)
  omega
set_option maxRecDepth 10000 in
/-- the document's determinant -/
theorem rDet_ok {a : List (List Rat)} {n : Nat} (h : Tw n n 4403 a) (hn : n ≤ 6) : PureF Tryz.prog 13 [.ro (a.map qlv)] (qsv (det n (ofL a))) := by
  have hl := h.l
  refine pure_enter Tryz.func13 rfl (by simp) (fun C hC => ?_)
  simp
  refine callS (pInt_ok 1 (by omega) (by omega)) (by simp) ?_
  simp
  refine ⟨by omega, ?_⟩
  refine CodeJ.frz 2 rfl (by simp) ?_
  have ta : (a.map qlv).take a.length = a.map qlv := List.take_of_length_le (by simp)
  simp [frzS, ta]
  refine CodeJ.loopL (ι := Nat × Nat × List (List Rat) × Rat) (fun ⟨s, j, m, o⟩ => ⟨55, [(2, .ptr 0 0 0), (3, .ptr 1 0 0), (4, .ro (m.map qlv))], [some ⟨4, [.agg [.val (.bool false), .val (.slice none 0 0), .val (.bool false), .val (.slice none 0 0)]], false⟩, some ⟨4, [qsv o], false⟩]⟩)
    (fun ⟨s, j, m, o⟩ => s + j = n ∧ Tw s s (4403 * 5 ^ j) m ∧ o * det s (ofL m) = det n (ofL a) ∧ qw (1 + 4403 * 5 ^ j) o) (fun ⟨s, j, m, o⟩ => s) (n, 0, a, 1) ⟨by omega, by simpa using h, by grind, qw_mono (qw_int (k := 1) (x := 1) (fw_one (by omega)) (by omega)) (by omega)⟩ ?_ ?_
  · simp [leS, hC]
  · rintro ⟨s, j, m, o⟩ ⟨hs, ht, hd, ho⟩
    have hml := ht.l
    have w1 := pow5w_le (e := j) (n := n) (by omega) hn
    have w5 : 4403 * 5 ^ (j + 1) = 5 * (4403 * 5 ^ j) := by rw [Nat.pow_succ]; omega
    generalize hW : 4403 * 5 ^ j = W at *
    have wp : 1 ≤ W := by
      have := Nat.pow_pos (n := j) (show 0 < 5 by omega)
      omega
    cases s with
    | zero =>
      obtain rfl : m = [] := List.length_eq_zero_iff.1 hml
      simp only [det] at hd
      rw [Rat.mul_one] at hd
      simp [hd]
    | succ s =>
      have hpos : 0 < m.length := by omega
      simp (disch := omega) [hpos]
      repeat (refine And.intro (by omega) ?_)
      refine CodeJ.loopL (ι := Nat × Nat) (fun ⟨i, p⟩ => ⟨55, [(2, .ptr 0 0 0), (3, .ptr 1 0 0), (4, .ro (m.map qlv)), (5, iv ((p : Int) - 1)), (6, iv i)], [some ⟨4, [.agg [.val (.bool false), .val (.slice none 0 0), .val (.bool false), .val (.slice none 0 0)]], false⟩, some ⟨4, [qsv o], false⟩]⟩)
        (fun ⟨i, p⟩ => i ≤ s + 1 ∧ (p = 0 → ∀ u, u < i → gt (gt m u) 0 = 0) ∧ (p ≠ 0 → p - 1 < s + 1 ∧ gt (gt m (p - 1)) 0 ≠ 0)) (fun ⟨i, p⟩ => s + 1 - i) (0, 0) (by simp) ?_ ?_
      · simp [leS, hC]
      · rintro ⟨i, p⟩ ⟨hi, h0, h1⟩
        by_cases hlt : i < s + 1
        · have li := lget_qlv (l := m) (i := i) (by omega)
          have wi := ht.r i hlt
          have l1 := lget_q (l := gt m i) (i := 0) (by omega)
          have hlt' : (i : Int) < s + 1 := by omega
          have hlt2 : ¬ (s : Int) + 1 ≤ i := by omega
          by_cases c1 : gt (gt m i) 0 = 0
          · simp (disch := omega) [hml, hlt', hlt2, li, wi, l1]
            repeat (refine And.intro (by omega) ?_)
            refine callS (sgnP (gt (gt m i) 0)) (by simp) ?_
            simp (disch := omega) [c1, w64]
            repeat (refine And.intro (by omega) ?_)
            exact ⟨i + 1, p, ⟨by omega, fun e u hu => by
              by_cases e2 : u = i
              · rw [e2]; exact c1
              · exact h0 e u (by omega), h1⟩, by omega, Le.syn (by simp (disch := omega) [leS, hC, w64])⟩
          · by_cases c2 : p = 0
            · subst c2
              simp (disch := omega) [hml, hlt', hlt2, li, wi, l1]
              repeat (refine And.intro (by omega) ?_)
              refine callS (sgnP (gt (gt m i) 0)) (by simp) ?_
              simp (disch := omega) [c1, w64]
              repeat (refine And.intro (by omega) ?_)
              exact ⟨i + 1, i + 1, ⟨by omega, fun q => by omega, fun _ => ⟨by omega, by simpa using c1⟩⟩, by omega, Le.syn (by simp (disch := omega) [leS, hC, w64])⟩
            · obtain ⟨p1, rfl⟩ : ∃ q, p = q + 1 := ⟨p - 1, by omega⟩
              have et : ((p1 + 1 : Nat) : Int) - 1 = p1 := by omega
              have c4 : ¬ (p1 : Int) < 0 := by omega
              simp only [et]
              simp (disch := omega) [hml, hlt', hlt2, li, wi, l1]
              repeat (refine And.intro (by omega) ?_)
              refine callS (sgnP (gt (gt m i) 0)) (by simp) ?_
              simp (disch := omega) [c1, c4, w64]
              repeat (refine And.intro (by omega) ?_)
              exact ⟨i + 1, p1 + 1, ⟨by omega, fun q => by omega, h1⟩, by omega, Le.syn (by simp (disch := omega) [leS, hC, w64])⟩
        · obtain rfl : i = s + 1 := by omega
          by_cases c2 : p = 0
          · subst c2
            have z := det_col0 (n := s) (A := ofL m) (fun r hr => h0 rfl r hr)
            rw [z, Rat.mul_zero] at hd
            simp (disch := omega) [hml]
            repeat (refine And.intro (by omega) ?_)
            refine callS (zeroP) (by simp) ?_
            simp [hd]
          · obtain ⟨p1, rfl⟩ : ∃ q, p = q + 1 := ⟨p - 1, by omega⟩
            obtain ⟨g1, g2⟩ := h1 c2
            simp only [Nat.add_sub_cancel] at g1 g2
            have et : ((p1 + 1 : Nat) : Int) - 1 = p1 := by omega
            have c4 : ¬ (p1 : Int) < 0 := by omega
            have li := lget_qlv (l := m) (i := p1) (by omega)
            have wi := ht.r p1 g1
            have l1 := lget_q (l := gt m p1) (i := 0) (by omega)
            have q1 := ht.q p1 0 g1 (by omega)
            have qo := qw_mul ho q1 (by omega)
            have dm := det_minL hml (fun i hi => ht.r i hi) g1 g2
            rw [dm] at hd
            have gm := rMinor_ok ht (by omega) wp (by omega) g1 g2
            have tm := Go.Dt.Tw.minL ht g1 wp
            simp only [et]
            simp (disch := omega) [hml, c4]
            repeat (refine And.intro (by omega) ?_)
            refine CodeJ.draw (.qs [0, 1, 2, 3, 4, 5, 6] <| .l 7 [] <| .l 8 [1] <| .nil) (by kernel_rfl) (by kernel_rfl) (by simp) ?_
            simp (disch := omega) [hml, li, wi, l1, g1]
            repeat (refine And.intro (by omega) ?_)
            refine callS (pMul_ok _ _ (qok_of ho (by omega)) (qok_of q1 (by omega))) (by simp) ?_
            simp
            have hm2 : ((p1 : Int).tmod 2 = 1) ↔ p1 % 2 = 1 := by
              rw [Int.tmod_eq_emod_of_nonneg (by omega)]; omega
            by_cases c : p1 % 2 = 1
            · have e : Dt.sg p1 = -1 := by unfold Dt.sg; rw [if_pos c]
              rw [e] at hd
              simp [hm2, c]
              refine callS (pNeg_ok (o * gt (gt m p1) 0)) (by simp) ?_
              simp
              refine callS (gm) (by simp) ?_
              simp
              exact ⟨s, j + 1, minL m p1, -(o * gt (gt m p1) 0), ⟨by omega, by rw [w5]; exact tm, by rw [← hd]; grind, by rw [w5]; exact qw_mono (qw_neg qo) (by omega)⟩, by omega, Le.syn (by simp (disch := omega) [leS, hC, w64])⟩
            · have e : Dt.sg p1 = 1 := by unfold Dt.sg; rw [if_neg c]
              rw [e] at hd
              simp [hm2, c]
              refine callS (gm) (by simp) ?_
              simp
              exact ⟨s, j + 1, minL m p1, o * gt (gt m p1) 0, ⟨by omega, by rw [w5]; exact tm, by rw [← hd]; grind, by rw [w5]; exact qw_mono qo (by omega)⟩, by omega, Le.syn (by simp (disch := omega) [leS, hC, w64])⟩
end Go.Proofs
namespace Go.Dt
open Go Go.Sv Go.Pl Go.Proofs Go.Tb Go.Ut Go.Mx
def appL (a : List (List Rat)) (x : List Rat) : List Rat := (List.range a.length).map fun i => mulV x.length (ofL a) (gt x) i
@[simp] theorem appL_len (a : List (List Rat)) (x : List Rat) : (appL a x).length = a.length := by simp [appL]
theorem gt_appL {a : List (List Rat)} {x : List Rat} {i : Nat} (h : i < a.length) : gt (appL a x) i = mulV x.length (ofL a) (gt x) i := by unfold appL; rw [gt_range _ h]
theorem qw_mulV {a : List (List Rat)} {n w : Nat} (h : Tw n w 10000 a) {x : List Rat} (hx : Wd 20000000 x) {i : Nat} (hi : i < n) : ∀ k, k ≤ w → k ≤ x.length → Proofs.qw (1 + 20010001 * k) (mulV k (ofL a) (gt x) i)
  | 0, _, _ => ⟨fw_zero _, fw_one (by omega)⟩
  | k + 1, hk, hk' => by
    have h1 := qw_mulV h hx hi k (by omega) (by omega)
    exact qw_mono (qw_add h1 (qw_mul (h.q i k hi (by omega)) (hx k (by omega)) (by omega))) (by omega)
def trL (a : List (List Rat)) (w : Nat) : List (List Rat) := (List.range w).map fun k => (List.range a.length).map fun i => gt (gt a i) k
def putL (a : List (List Rat)) (col : Nat) (x : List Rat) : List (List Rat) := (List.range a.length).map fun i => (gt a i).set col (gt x i)
end Go.Dt
namespace Go.Proofs
open Go.Sv Go Go.Tb Go.Pl Go.Ut Go.Mx Go.Dt
set_option maxRecDepth 10000 in
theorem rApply_ok {a : List (List Rat)} {n w : Nat} (h : Tw n w 10000 a) (hn : n ≤ 1000) (hw : w ≤ 100) (x : List Rat) (hx : x.length = w) (hv : Wd 20000000 x) : PureF Tryz.prog 63 [.ro (a.map qlv), .ro (x.map qsv)] (.ro ((appL a x).map qsv)) := by
  have hl := h.l
  have al : (appL a x).length = n := by rw [appL_len, hl]
  refine pure_enter Tryz.func63 rfl (by simp) (fun C hC => ?_)
  simp
  refine CodeJ.nil 5 4 rfl ?_
  refine CodeJ.loopL (ι := Nat × List Rat) (fun ⟨i, xs⟩ => ⟨43, [(0, .ro (a.map qlv)), (1, .ro (x.map qsv)), (5, .view 0 0 xs.length), (6, iv i)], [some ⟨4, xs.map qsv, false⟩]⟩)
    (fun ⟨i, xs⟩ => i ≤ n ∧ xs = (appL a x).take i) (fun ⟨i, xs⟩ => n - i) (0, []) (by simp) ?_ ?_
  · simp [leS, hC]
  · rintro ⟨i, xs⟩ ⟨hi, he⟩
    have hxl : xs.length = i := by rw [he]; simp; omega
    by_cases hlt : i < n
    · have hx' := take_gt (l := appL a x) (i := i) (by omega)
      rw [← he, gt_appL (by omega), hx] at hx'
      have li := lget_qlv (l := a) (i := i) (by omega)
      have wi := h.r i hlt
      simp (disch := omega) [hl, hlt]
      repeat (refine And.intro (by omega) ?_)
      refine callS (zeroP) (by simp) ?_
      simp
      refine CodeJ.loopL (ι := Nat) (fun k => ⟨43, [(0, .ro (a.map qlv)), (1, .ro (x.map qsv)), (5, .view 0 0 xs.length), (6, iv i), (7, .ptr 1 0 0), (8, iv k)], [some ⟨4, xs.map qsv, false⟩, some ⟨4, [qsv (mulV k (ofL a) (gt x) i)], false⟩]⟩)
        (fun k => k ≤ w) (fun k => w - k) 0 (by simp) ?_ ?_
      · simp [leS, hC, mulV, sumR]
      · rintro k hk
        by_cases hkw : k < w
        · have l1 := lget_q (l := gt a i) (i := k) (by omega)
          have l2 := lget_q (l := x) (i := k) (by omega)
          have q1 := h.q i k hlt hkw
          have q2 := hv k (by omega)
          have q3 := qw_mulV h hv hlt k (by omega) (by omega)
          have q4 := qw_mul q1 q2 (by omega)
          simp (disch := omega) [hx, hkw]
          repeat (refine And.intro (by omega) ?_)
          refine CodeJ.drawZ (.d 12 <| .qs [0, 1, 2, 3, 4, 5, 6, 7, 8, 9, 10] <| .p 11 <| .b ( .l 13 [2] <| .nil )) (by kernel_rfl) (by kernel_rfl) (by simp) ?_
          simp (disch := omega) [hl, hlt, li, wi, hx, hkw, l1, l2]
          repeat (refine And.intro (by omega) ?_)
          refine callV (pMul_ok _ _ (qok_of q1 (by omega)) (qok_of q2 (by omega))) (by simp) ?_
          simp
          refine callS (pAdd_ok _ _ (qok_of q3 (by omega)) (qok_of q4 (by omega))) (by simp) ?_
          simp (disch := omega) [w64]
          repeat (refine And.intro (by omega) ?_)
          exact ⟨k + 1, by omega, by omega, Le.syn (by simp (disch := omega) [leS, hC, w64, mulV, sumR, ofL])⟩
        · obtain rfl : k = w := by omega
          simp (disch := omega) [hx, w64]
          repeat (refine And.intro (by omega) ?_)
          exact ⟨⟨by simp [hC], by omega⟩, i + 1, xs ++ [mulV k (ofL a) (gt x) i], ⟨by omega, hx'.symm⟩, by omega, Le.syn (by simp (disch := omega) [leS, hC, w64])⟩
    · obtain rfl : i = n := by omega
      rw [List.take_of_length_le (by omega)] at he
      simp [hl, he, List.take_of_length_le]
set_option maxRecDepth 10000 in
theorem rSquare_ok (a : List (List Rat)) (hl : a.length ≤ 1048576) (hr : ∀ r ∈ a, r.length ≤ 1048576) : PureF Tryz.prog 11 [.ro (a.map qlv)] (.val (.bool (isTab a && decide (wide a = a.length)))) := by
  refine pure_enter Tryz.func11 rfl (by simp) (fun C hC => ?_)
  simp
  refine callS (rIsTable_ok a hl hr) (by simp) ?_
  simp
  cases isTab a with
  | false => simp
  | true =>
    simp
    refine callS (rWide_ok a hl) (by simp) ?_
    simp
    omega
set_option maxRecDepth 10000 in
theorem rTurned_ok {a : List (List Rat)} {n w W : Nat} (h : Tw n w W a) (hn : n ≤ 1000) (hw : w ≤ 1000) (he : wide a = w) : PureF Tryz.prog 65 [.ro (a.map qlv)] (.ro ((trL a w).map qlv)) := by
  have hl := h.l
  have tl : (trL a w).length = w := by simp [trL]
  refine pure_enter Tryz.func65 rfl (by simp) (fun C hC => ?_)
  simp
  refine CodeJ.nil 3 1 rfl ?_
  refine CodeJ.loopL (ι := Nat × List (List Rat)) (fun ⟨k, xs⟩ => ⟨34, [(0, .ro (a.map qlv)), (3, .view 0 0 xs.length), (4, iv k)], [some ⟨1, xs.map qlv, false⟩]⟩)
    (fun ⟨k, xs⟩ => k ≤ w ∧ xs = (trL a w).take k) (fun ⟨k, xs⟩ => w - k) (0, []) (by simp) ?_ ?_
  · simp [leS, hC]
  · rintro ⟨k, xs⟩ ⟨hk, hx⟩
    have hxl : xs.length = k := by rw [hx]; simp; omega
    simp
    refine callS (rWide_ok a (by omega)) (by simp) ?_
    by_cases hkw : k < w
    · have hx' := take_gt (l := trL a w) (i := k) (by omega)
      have eg : gt (trL a w) k = (List.range n).map fun i => gt (gt a i) k := by unfold trL; rw [gt_range _ hkw, hl]
      rw [← hx, eg] at hx'
      simp (disch := omega) [he, hkw]
      repeat (refine And.intro (by omega) ?_)
      refine CodeJ.nil 5 4 rfl ?_
      refine CodeJ.loopL (ι := Nat × List Rat) (fun ⟨i, ys⟩ => ⟨34, [(0, .ro (a.map qlv)), (3, .view 0 0 xs.length), (4, iv k), (5, .view 1 0 ys.length), (6, iv i)], [some ⟨1, xs.map qlv, false⟩, some ⟨4, ys.map qsv, false⟩]⟩)
        (fun ⟨i, ys⟩ => i ≤ n ∧ ys = (List.range i).map fun i => gt (gt a i) k) (fun ⟨i, ys⟩ => n - i) (0, []) (by simp) ?_ ?_
      · simp [leS, hC]
      · rintro ⟨i, ys⟩ ⟨hi, hy⟩
        have hyl : ys.length = i := by rw [hy]; simp
        by_cases hlt : i < n
        · have li := lget_qlv (l := a) (i := i) (by omega)
          have wi := h.r i hlt
          have l1 := lget_q (l := gt a i) (i := k) (by omega)
          simp (disch := omega) [hl, hlt, li, wi, l1, w64]
          repeat (refine And.intro (by omega) ?_)
          exact ⟨⟨by simp [hC], by omega⟩, i + 1, ys ++ [gt (gt a i) k], ⟨by omega, by rw [hy, List.range_succ, List.map_append]; rfl⟩, by omega, Le.syn (by simp (disch := omega) [leS, hC, w64])⟩
        · obtain rfl : i = n := by omega
          simp (disch := omega) [hl, w64]
          repeat (refine And.intro (by omega) ?_)
          have ty : (ys.map qsv).take ys.length = ys.map qsv := List.take_of_length_le (by simp)
          exact ⟨⟨by simp [hC], by omega⟩, k + 1, xs ++ [ys], ⟨by omega, by rw [hx', hy]⟩, by omega, (Le.frz 1 rfl (by simp)).trans (Le.syn (by simp [leS, hC, frzS, ty, sbL_app]))⟩
    · obtain rfl : k = w := by omega
      rw [List.take_of_length_le (by omega)] at hx
      simp [he, hx, List.take_of_length_le]
set_option maxRecDepth 10000 in
theorem rPut_ok {a : List (List Rat)} {n w W : Nat} (h : Tw n w W a) (hn : n ≤ 1000) (hw : w ≤ 1000) {col : Nat} (hc : col < w) (x : List Rat) (hx : x.length = n) : PureF Tryz.prog 23 [.ro (a.map qlv), iv col, .ro (x.map qsv)] (.ro ((putL a col x).map qlv)) := by
  have hl := h.l
  have pl : (putL a col x).length = n := by simp [putL, hl]
  refine pure_enter Tryz.func23 rfl (by simp) (fun C hC => ?_)
  simp
  refine CodeJ.nil 7 1 rfl ?_
  refine CodeJ.loopL (ι := Nat × List (List Rat)) (fun ⟨i, xs⟩ => ⟨34, [(0, .ro (a.map qlv)), (1, iv col), (2, .ro (x.map qsv)), (7, .view 0 0 xs.length), (8, iv i)], [some ⟨1, xs.map qlv, false⟩]⟩)
    (fun ⟨i, xs⟩ => i ≤ n ∧ xs = (putL a col x).take i) (fun ⟨i, xs⟩ => n - i) (0, []) (by simp) ?_ ?_
  · simp [leS, hC]
  · rintro ⟨i, xs⟩ ⟨hi, he⟩
    have hxl : xs.length = i := by rw [he]; simp; omega
    by_cases hlt : i < n
    · have hx' := take_gt (l := putL a col x) (i := i) (by omega)
      have eg : gt (putL a col x) i = (gt a i).set col (gt x i) := by unfold putL; rw [gt_range _ (by omega)]
      rw [← he, eg] at hx'
      have li := lget_qlv (l := a) (i := i) (by omega)
      have wi := h.r i hlt
      have lx := lget_q (l := x) (i := i) (by omega)
      have lc := lget_q (l := gt a i) (i := col) (by omega)
      have es : lset ((gt a i).map qsv) col (qsv (gt x i)) = ((gt a i).set col (gt x i)).map qsv := by rw [lset_eq, List.map_set]
      have ty : (((gt a i).set col (gt x i)).map qsv).take w = ((gt a i).set col (gt x i)).map qsv := List.take_of_length_le (by simp; omega)
      simp (disch := omega) [hl, hlt, li, lx, lc, wi, hx, es, w64, -List.map_set]
      repeat (refine And.intro (by omega) ?_)
      exact ⟨⟨by simp [hC], by omega⟩, i + 1, xs ++ [(gt a i).set col (gt x i)], ⟨by omega, hx'.symm⟩, by omega, (Le.frz 1 rfl (by simp [-List.map_set])).trans (Le.syn (by simp [leS, hC, frzS, ty, wi, sbL_app, -List.map_set]))⟩
    · obtain rfl : i = n := by omega
      rw [List.take_of_length_le (by omega)] at he
      simp [hl, he, List.take_of_length_le]
end Go.Proofs

