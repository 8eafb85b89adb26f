/- The row that rows make, as plain data: CHVATAL'S CUT: each whole point keeps it. Covers, as plain data: of columns that are too much together not all are 1: each whole point keeps the row. A text of the prover's own. -/
import Derived.Test.YtilpfpephcngbaaGreatDoorCKo
namespace Go.Li
open Go Go.Sv Go.Pl Go.Proofs Go.Tb Go.Ut
/-- what the rows together have at a column -/
def gS (p : Prob) (y : List Rat) (j : Nat) : Nat → Rat
  | 0 => 0
  | i + 1 => gS p y j i + gt y i * entT (gt p.rows i).terms j
theorem gS_eq {p : Prob} {y : List Rat} {j : Nat} (h : j < p.cols.length) : ∀ i, gS p y j i = -(dP (free p) y j i)
  | 0 => by
    simp only [gS, dP]
    rw [free_cost h]; simp
  | i + 1 => by
    simp only [gS, dP]
    rw [gS_eq h i]
    have : (free p).rows = p.rows := rfl
    rw [this]; grind
theorem qw_gS {p : Prob} (hw : ProbW p) {y : List Rat} (hy : Wd 2200 y) (hl : p.rows.length ≤ y.length) {j : Nat} (hj : j < p.cols.length) (i : Nat) (hi : i ≤ p.rows.length) : qw (2200 + 4401 * i) (gS p y j i) := by
  rw [gS_eq hj]
  exact qw_neg (qw_dP (probW_free hw) hy (show (free p).rows.length ≤ y.length from hl) (show j < (free p).cols.length by rw [free_cols]; exact hj) i hi)
def sgR (r : Row) (q : Rat) : Bo := if q < 0 then r.low else r.high
def sgC (c : Col) (q : Rat) : Bo := if q < 0 then c.high else c.low
def sdR (p : Prob) (y : List Rat) : Nat → Rat
  | 0 => 0
  | i + 1 => sdR p y i + gt y i * (sgR (gt p.rows i) (gt y i)).at'
def opR (p : Prob) (y : List Rat) (i : Nat) : Bool := decide (gt y i ≠ 0) && !(sgR (gt p.rows i) (gt y i)).has
def lessC (p : Prob) (y : List Rat) (j : Nat) : Rat := if (gt p.cols j).whole = true then gS p y j p.rows.length - (gS p y j p.rows.length).floor else gS p y j p.rows.length
def sdC (p : Prob) (y : List Rat) : Nat → Rat
  | 0 => sdR p y p.rows.length
  | j + 1 => sdC p y j - lessC p y j * (sgC (gt p.cols j) (lessC p y j)).at'
def opC (p : Prob) (y : List Rat) (j : Nat) : Bool := decide (lessC p y j ≠ 0) && !(sgC (gt p.cols j) (lessC p y j)).has
def cF (p : Prob) (y : List Rat) (j : Nat) : Rat := gS p y j p.rows.length - lessC p y j
def tmF (f : Nat → Rat) : Nat → List Term
  | 0 => []
  | j + 1 => if f j = 0 then tmF f j else tmF f j ++ [⟨j, f j⟩]
def openP (p : Prob) (y : List Rat) : Bool := (List.range p.rows.length).any (opR p y) || (List.range p.cols.length).any (opC p y)
def combR (p : Prob) (y : List Rat) : Row := ⟨.empty, tmF (cF p y) p.cols.length, ⟨false, 0⟩, ⟨true, ((sdC p y p.cols.length).floor : Rat)⟩⟩
theorem qw_floor {k : Nat} {q : Rat} (h : qw k q) (hk : 1 ≤ k) : qw k (q.floor : Rat) := qw_int (fw_floor h) hk
theorem qw_less {p : Prob} (hw : ProbW p) {y : List Rat} (hy : Wd 2200 y) (hl : p.rows.length ≤ y.length) {j : Nat} (hj : j < p.cols.length) : qw (2 * (2200 + 4401 * p.rows.length) + 1) (lessC p y j) := by
  have h := qw_gS hw hy hl hj p.rows.length (Nat.le_refl _)
  unfold lessC; split
  · exact qw_mono (qw_sub h (qw_floor h (by omega))) (by omega)
  · exact qw_mono h (by omega)
theorem qw_sgR {p : Prob} (hw : ProbW p) {i : Nat} (hi : i < p.rows.length) (q : Rat) : qw 2200 (sgR (gt p.rows i) q).at' := by
  unfold sgR; split
  · exact (hw.ro i hi).1
  · exact (hw.ro i hi).2
theorem qw_sgC {p : Prob} (hw : ProbW p) {j : Nat} (hj : j < p.cols.length) (q : Rat) : qw 2200 (sgC (gt p.cols j) q).at' := by
  unfold sgC; split
  · exact (hw.co j hj).2.2
  · exact (hw.co j hj).2.1
theorem qw_sdR {p : Prob} (hw : ProbW p) {y : List Rat} (hy : Wd 2200 y) (hl : p.rows.length ≤ y.length) : ∀ i, i ≤ p.rows.length → qw (2200 + 4401 * i) (sdR p y i)
  | 0, _ => qw_zero _ (by omega)
  | i + 1, hi => qw_mono (qw_add (qw_sdR hw hy hl i (by omega)) (qw_mul (hy i (by omega)) (qw_sgR hw (i := i) (by omega) (gt y i)) (by omega))) (by omega)
theorem qw_sdC {p : Prob} (hw : ProbW p) {y : List Rat} (hy : Wd 2200 y) (hl : p.rows.length ≤ y.length) (hr : p.rows.length ≤ 120) : ∀ j, j ≤ p.cols.length → qw (1000000 + 1200000 * j) (sdC p y j)
  | 0, _ => qw_mono (qw_sdR hw hy hl p.rows.length (Nat.le_refl _)) (by omega)
  | j + 1, hj => by
    have h1 := qw_less hw hy hl (show j < p.cols.length by omega)
    have h2 := qw_sgC hw (show j < p.cols.length by omega) (lessC p y j)
    exact qw_mono (qw_sub (qw_sdC hw hy hl hr j (by omega)) (qw_mul h1 h2 (by omega))) (by omega)
theorem qw_cF {p : Prob} (hw : ProbW p) {y : List Rat} (hy : Wd 2200 y) (hl : p.rows.length ≤ y.length) (hr : p.rows.length ≤ 120) {j : Nat} (hj : j < p.cols.length) : qw 2000000 (cF p y j) :=
  qw_mono (qw_sub (qw_gS hw hy hl hj p.rows.length (Nat.le_refl _)) (qw_less hw hy hl hj)) (by omega)
/-! terms -/
theorem tmF_len (f : Nat → Rat) : ∀ n, (tmF f n).length ≤ n
  | 0 => Nat.le_refl _
  | n + 1 => by
    have := tmF_len f n
    unfold tmF; split
    · omega
    · simp; omega
theorem tmF_at (f : Nat → Rat) : ∀ n k, k < (tmF f n).length → 0 ≤ (gt (tmF f n) k).col ∧ (gt (tmF f n) k).col < n ∧ (gt (tmF f n) k).num = f (gt (tmF f n) k).col.toNat ∧ (gt (tmF f n) k).num ≠ 0
  | 0, k, h => by simp [tmF] at h
  | n + 1, k, h => by
    unfold tmF at h ⊢
    split at h
    · rename_i e
      rw [if_pos e]
      obtain ⟨h1, h2, h3, h4⟩ := tmF_at f n k h
      exact ⟨h1, by omega, h3, h4⟩
    · rename_i e
      rw [if_neg e]
      simp only [List.length_append, List.length_cons, List.length_nil] at h
      by_cases hk : k < (tmF f n).length
      · rw [gt_app hk]
        obtain ⟨h1, h2, h3, h4⟩ := tmF_at f n k hk
        exact ⟨h1, by omega, h3, h4⟩
      · obtain rfl : k = (tmF f n).length := by omega
        have g : gt (tmF f n ++ [(⟨n, f n⟩ : Term)]) (tmF f n).length = ⟨n, f n⟩ := by
          rw [← gt_get (by simp)]; simp
        rw [g]
        exact ⟨by show (0 : Int) ≤ (n : Int); omega, by show (n : Int) < _; omega, by simp, e⟩
theorem sumK_pre {x : List Rat} {a r : List Term} : ∀ k, k ≤ a.length → sumK x (a ++ r) k = sumK x a k
  | 0, _ => rfl
  | k + 1, h => by
    simp only [sumK]
    rw [sumK_pre k (by omega), gt_app (show k < a.length by omega)]
theorem sumK_tmF (f : Nat → Rat) (x : List Rat) : ∀ n, sumK x (tmF f n) (tmF f n).length = sumN (fun j => gt x j * f j) n
  | 0 => rfl
  | n + 1 => by
    have ih := sumK_tmF f x n
    simp only [sumN]
    unfold tmF
    split
    · rename_i e
      rw [ih, e]; grind
    · simp only [List.length_append, List.length_cons, List.length_nil, sumK]
      have g : gt (tmF f n ++ [(⟨n, f n⟩ : Term)]) (tmF f n).length = ⟨n, f n⟩ := by
        rw [← gt_get (by simp)]; simp
      rw [sumK_pre _ (Nat.le_refl _), ih, g]
      simp only [Int.toNat_natCast]
      grind
theorem rng_any {n i : Nat} {f : Nat → Bool} (h : i < n) (hf : (List.range n).any f = false) : f i = false := by
  have := List.any_eq_false.1 hf i (List.mem_range.2 h)
  simpa using this
/-! the law -/
theorem sum_gS {p : Prob} (hv : validC p = 0) (x y : List Rat) : sumN (fun j => gt x j * gS p y j p.rows.length) p.cols.length = sumN (fun k => gt y k * rowS p x k) p.rows.length := by
  have hb : ∀ i, i < (free p).rows.length → badT (free p).cols.length (-1) (gt (free p).rows i).terms = false := fun i hi => by rw [free_cols]; exact (valid_yes hv).2.2 i hi
  have h3 := sumD hb x y p.rows.length (Nat.le_refl _)
  rw [free_cols] at h3
  have z : sumN (fun j => gt x j * (gt (free p).cols j).cost) p.cols.length = 0 := by
    have e := sumN_congr (n := p.cols.length) (f := fun j => gt x j * (gt (free p).cols j).cost) (g := fun j => 0 * (0 : Rat)) fun j hj => by
      show gt x j * (gt (free p).cols j).cost = _
      rw [free_cost hj]; grind
    rw [e, sumN_mul]; grind
  have e := sumN_congr (n := p.cols.length) (f := fun j => gt x j * gS p y j p.rows.length) (g := fun k => (-1) * (gt x k * dP (free p) y k p.rows.length)) fun j hj => by
    show gt x j * gS p y j p.rows.length = _
    rw [gS_eq hj]; grind
  have er : ∀ k, rowS (free p) x k = rowS p x k := fun k => rfl
  rw [e, sumN_mul, h3, z]
  simp only [er]
  grind
theorem rows_le {p : Prob} {x y : List Rat} {w : Bool} (h : holdsB p x w = true) (ho : (List.range p.rows.length).any (opR p y) = false) : ∀ i, i ≤ p.rows.length → sumN (fun k => gt y k * rowS p x k) i ≤ sdR p y i
  | 0, _ => Rat.le_refl
  | i + 1, hi => by
    have ih := rows_le h ho i (by omega)
    have hr := inB_iff.1 (holds_row h (i := i) (by omega))
    have o := rng_any (show i < p.rows.length by omega) ho
    simp only [sumN, sdR]
    have key : gt y i * rowS p x i ≤ gt y i * (sgR (gt p.rows i) (gt y i)).at' := by
      by_cases h0 : gt y i = 0
      · rw [h0]; grind
      · have hs : (sgR (gt p.rows i) (gt y i)).has = true := by
          unfold opR at o
          simpa [h0] using o
        unfold sgR at hs ⊢
        by_cases hn : gt y i < 0
        · rw [if_pos hn] at hs ⊢
          have := Rat.mul_le_mul_of_nonneg_right (hr.1 hs) (show 0 ≤ -(gt y i) by grind)
          grind
        · rw [if_neg hn] at hs ⊢
          have := Rat.mul_le_mul_of_nonneg_right (hr.2 hs) (show 0 ≤ gt y i by grind)
          grind
    grind
theorem cols_le {p : Prob} {x y : List Rat} {w : Bool} {S : Rat} (h : holdsB p x w = true) (ho : (List.range p.cols.length).any (opC p y) = false) (hS : S ≤ sdR p y p.rows.length) : ∀ j, j ≤ p.cols.length → S - sumN (fun k => gt x k * lessC p y k) j ≤ sdC p y j
  | 0, _ => by simp only [sumN, sdC]; grind
  | j + 1, hj => by
    have ih := cols_le h ho hS j (by omega)
    have hr := inB_iff.1 (holds_col h (j := j) (by omega))
    have o := rng_any (show j < p.cols.length by omega) ho
    simp only [sumN, sdC]
    have key : lessC p y j * (sgC (gt p.cols j) (lessC p y j)).at' ≤ gt x j * lessC p y j := by
      unfold opC at o
      generalize lessC p y j = l at *
      by_cases h0 : l = 0
      · rw [h0]; grind
      · have hs : (sgC (gt p.cols j) l).has = true := by simpa [h0] using o
        unfold sgC at hs ⊢
        by_cases hn : l < 0
        · rw [if_pos hn] at hs ⊢
          have := Rat.mul_le_mul_of_nonneg_right (hr.2 hs) (show 0 ≤ -l by grind)
          grind
        · rw [if_neg hn] at hs ⊢
          have := Rat.mul_le_mul_of_nonneg_right (hr.1 hs) (show 0 ≤ l by grind)
          grind
    grind
theorem cF_whole {p : Prob} {y : List Rat} {j : Nat} (h : (gt p.cols j).whole = true) : cF p y j = ((gS p y j p.rows.length).floor : Rat) := by
  unfold cF lessC; rw [if_pos h]; grind
theorem cF_not {p : Prob} {y : List Rat} {j : Nat} (h : (gt p.cols j).whole = false) : cF p y j = 0 := by
  unfold cF lessC; rw [if_neg (by simp [h])]; grind
theorem sum_int {p : Prob} {x y : List Rat} (h : holdsB p x true = true) : ∀ n, n ≤ p.cols.length → ∃ z : Int, sumN (fun j => gt x j * cF p y j) n = (z : Rat)
  | 0, _ => ⟨0, rfl⟩
  | n + 1, hn => by
    obtain ⟨z, hz⟩ := sum_int (y := y) h n (by omega)
    simp only [sumN]
    rw [hz]
    cases hc : (gt p.cols n).whole with
    | false =>
      rw [cF_not hc]
      exact ⟨z, by grind⟩
    | true =>
      have hd : (gt x n).den = 1 := by
        unfold holdsB at h
        simp only [Bool.and_eq_true, List.all_eq_true, List.mem_range] at h
        have := h.1 n (by omega)
        unfold colB at this
        simp only [Bool.and_eq_true] at this
        simpa [hc] using this.2
      have hx : gt x n = ((gt x n).num : Rat) := Rat.ext rfl hd
      rw [cF_whole hc, hx]
      refine ⟨z + (gt x n).num * (gS p y n p.rows.length).floor, ?_⟩
      rw [Rat.intCast_add, Rat.intCast_mul]
/-- each whole point keeps the row -/
theorem chvatal {p : Prob} (hv : validC p = 0) {x y : List Rat} (h : holdsB p x true = true) (ho : openP p y = false) : sumK x (combR p y).terms (combR p y).terms.length ≤ (combR p y).high.at' := by
  unfold openP at ho
  simp only [Bool.or_eq_false_iff] at ho
  have h1 := rows_le h ho.1 p.rows.length (Nat.le_refl _)
  rw [← sum_gS hv] at h1
  have h2 := cols_le h ho.2 h1 p.cols.length (Nat.le_refl _)
  rw [← sumN_sub] at h2
  have e := sumN_congr (n := p.cols.length) (f := fun j => gt x j * gS p y j p.rows.length - gt x j * lessC p y j) (g := fun j => gt x j * cF p y j) fun j _ => by
    show _ - _ = gt x j * cF p y j
    unfold cF; grind
  rw [e] at h2
  show sumK x (tmF (cF p y) p.cols.length) (tmF (cF p y) p.cols.length).length ≤ ((sdC p y p.cols.length).floor : Rat)
  rw [sumK_tmF]
  obtain ⟨z, hz⟩ := sum_int (y := y) h p.cols.length (Nat.le_refl _)
  rw [hz] at h2 ⊢
  exact Rat.intCast_le_intCast.2 (Rat.le_floor_iff.2 h2)
end Go.Li
namespace Go.Li
open Go Go.Sv Go.Pl Go.Proofs Go.Tb Go.Ut
end Go.Li

