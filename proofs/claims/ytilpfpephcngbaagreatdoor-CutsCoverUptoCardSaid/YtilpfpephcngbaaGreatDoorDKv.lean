/- The row that rows make, as plain data: CHVATAL'S CUT: each whole point keeps it. Covers, as plain data: of columns that are too much together not all are 1: each whole point keeps the row. A text of the prover's own. -/
import Derived.Test.YtilpfpephcngbaaGreatDoorDKo
namespace Go.Li
open Go Go.Sv Go.Pl Go.Proofs Go.Tb Go.Ut
/-- what the rows together have at a column -/
def gS (p : Prob) (y : List Rat) (j : Nat) : Nat → Rat
  | 0 => 0
  | i + 1 => gS p y j i + gt y i * entT (gt p.rows i).terms j
theorem gS_eq {p : Prob} {y : List Rat} {j : Nat} (h : j < p.cols.length) : ∀ i, gS p y j i = -(dP (free p) y j i)
  | 0 => by
    simp only [gS, dP]
    rw [free_cost h]; simp
  | i + 1 => by
    simp only [gS, dP]
    rw [gS_eq h i]
    have : (free p).rows = p.rows := rfl
    rw [this]; grind
theorem qw_gS {p : Prob} (hw : ProbW p) {y : List Rat} (hy : Wd 2200 y) (hl : p.rows.length ≤ y.length) {j : Nat} (hj : j < p.cols.length) (i : Nat) (hi : i ≤ p.rows.length) : qw (2200 + 4401 * i) (gS p y j i) := by
  rw [gS_eq hj]
  exact qw_neg (qw_dP (probW_free hw) hy (show (free p).rows.length ≤ y.length from hl) (show j < (free p).cols.length by rw [free_cols]; exact hj) i hi)
def sgR (r : Row) (q : Rat) : Bo := if q < 0 then r.low else r.high
def sgC (c : Col) (q : Rat) : Bo := if q < 0 then c.high else c.low
def sdR (p : Prob) (y : List Rat) : Nat → Rat
  | 0 => 0
  | i + 1 => sdR p y i + gt y i * (sgR (gt p.rows i) (gt y i)).at'
def opR (p : Prob) (y : List Rat) (i : Nat) : Bool := decide (gt y i ≠ 0) && !(sgR (gt p.rows i) (gt y i)).has
def lessC (p : Prob) (y : List Rat) (j : Nat) : Rat := if (gt p.cols j).whole = true then gS p y j p.rows.length - (gS p y j p.rows.length).floor else gS p y j p.rows.length
def sdC (p : Prob) (y : List Rat) : Nat → Rat
  | 0 => sdR p y p.rows.length
  | j + 1 => sdC p y j - lessC p y j * (sgC (gt p.cols j) (lessC p y j)).at'
def opC (p : Prob) (y : List Rat) (j : Nat) : Bool := decide (lessC p y j ≠ 0) && !(sgC (gt p.cols j) (lessC p y j)).has
def cF (p : Prob) (y : List Rat) (j : Nat) : Rat := gS p y j p.rows.length - lessC p y j
def tmF (f : Nat → Rat) : Nat → List Term
  | 0 => []
  | j + 1 => if f j = 0 then tmF f j else tmF f j ++ [⟨j, f j⟩]
def openP (p : Prob) (y : List Rat) : Bool := (List.range p.rows.length).any (opR p y) || (List.range p.cols.length).any (opC p y)
def combR (p : Prob) (y : List Rat) : Row := ⟨.empty, tmF (cF p y) p.cols.length, ⟨false, 0⟩, ⟨true, ((sdC p y p.cols.length).floor : Rat)⟩⟩
theorem qw_floor {k : Nat} {q : Rat} (h : qw k q) (hk : 1 ≤ k) : qw k (q.floor : Rat) := qw_int (fw_floor h) hk
theorem qw_less {p : Prob} (hw : ProbW p) {y : List Rat} (hy : Wd 2200 y) (hl : p.rows.length ≤ y.length) {j : Nat} (hj : j < p.cols.length) : qw (2 * (2200 + 4401 * p.rows.length) + 1) (lessC p y j) := by
  have h := qw_gS hw hy hl hj p.rows.length (Nat.le_refl _)
  unfold lessC; split
  · exact qw_mono (qw_sub h (qw_floor h (by omega))) (by omega)
  · exact qw_mono h (by omega)
theorem qw_sgR {p : Prob} (hw : ProbW p) {i : Nat} (hi : i < p.rows.length) (q : Rat) : qw 2200 (sgR (gt p.rows i) q).at' := by
  unfold sgR; split
  · exact (hw.ro i hi).1
  · exact (hw.ro i hi).2
theorem qw_sgC {p : Prob} (hw : ProbW p) {j : Nat} (hj : j < p.cols.length) (q : Rat) : qw 2200 (sgC (gt p.cols j) q).at' := by
  unfold sgC; split
  · exact (hw.co j hj).2.2
  · exact (hw.co j hj).2.1
theorem qw_sdR {p : Prob} (hw : ProbW p) {y : List Rat} (hy : Wd 2200 y) (hl : p.rows.length ≤ y.length) : ∀ i, i ≤ p.rows.length → qw (2200 + 4401 * i) (sdR p y i)
  | 0, _ => qw_zero _ (by omega)
  | i + 1, hi => qw_mono (qw_add (qw_sdR hw hy hl i (by omega)) (qw_mul (hy i (by omega)) (qw_sgR hw (i := i) (by omega) (gt y i)) (by omega))) (by omega)
theorem qw_sdC {p : Prob} (hw : ProbW p) {y : List Rat} (hy : Wd 2200 y) (hl : p.rows.length ≤ y.length) (hr : p.rows.length ≤ 120) : ∀ j, j ≤ p.cols.length → qw (1000000 + 1200000 * j) (sdC p y j)
  | 0, _ => qw_mono (qw_sdR hw hy hl p.rows.length (Nat.le_refl _)) (by omega)
  | j + 1, hj => by
    have h1 := qw_less hw hy hl (show j < p.cols.length by omega)
    have h2 := qw_sgC hw (show j < p.cols.length by omega) (lessC p y j)
    exact qw_mono (qw_sub (qw_sdC hw hy hl hr j (by omega)) (qw_mul h1 h2 (by omega))) (by omega)
/-! terms -/
theorem tmF_len (f : Nat → Rat) : ∀ n, (tmF f n).length ≤ n
  | 0 => Nat.le_refl _
  | n + 1 => by
    have := tmF_len f n
    unfold tmF; split
    · omega
    · simp; omega
theorem sumK_pre {x : List Rat} {a r : List Term} : ∀ k, k ≤ a.length → sumK x (a ++ r) k = sumK x a k
  | 0, _ => rfl
  | k + 1, h => by
    simp only [sumK]
    rw [sumK_pre k (by omega), gt_app (show k < a.length by omega)]
/-! the law -/
end Go.Li
namespace Go.Li
open Go Go.Sv Go.Pl Go.Proofs Go.Tb Go.Ut
/-- is it no ascending row of columns? -/
def badS (n : Int) : Int → List Int → Bool
  | _, [] => false
  | last, j :: l => decide (j ≤ last) || decide (n ≤ j) || badS n j l
def inS (set : List Int) (c : Int) : Bool := set.any fun j => decide (j = c)
def binC (c : Col) : Bool := c.whole && c.low.has && c.high.has && decide (c.low.at' = 0) && decide (c.high.at' = 1)
def sgT (p : Prob) (t : Term) : Bo := sgC (gt p.cols t.col.toNat) t.num
/-- what is wrong at a term: an error's number -/
def cvE (p : Prob) (set : List Int) (t : Term) : Nat := if inS set t.col = true then (if binC (gt p.cols t.col.toNat) = true ∧ ¬ t.num < 0 then 0 else 4) else if (sgT p t).has = true then 0 else 10
def cvV (p : Prob) (set : List Int) (t : Term) : Rat := if inS set t.col = true then t.num else t.num * (sgT p t).at'
def cvS (p : Prob) (set : List Int) (ts : List Term) : Nat → Rat
  | 0 => 0
  | k + 1 => cvS p set ts k + cvV p set (gt ts k)
def one1 (t : Term) : Term := ⟨t.col, 1⟩
/-- the terms that are in the row, of the first k -/
def cvO (set : List Int) (ts : List Term) : Nat → List Term
  | 0 => []
  | k + 1 => if inS set (gt ts k).col = true then cvO set ts k ++ [one1 (gt ts k)] else cvO set ts k
theorem cvO_len (set : List Int) (ts : List Term) : ∀ k, (cvO set ts k).length ≤ k
  | 0 => Nat.le_refl _
  | k + 1 => by
    have := cvO_len set ts k
    unfold cvO; split
    · simp; omega
    · omega
/-- ascending -/
def Asc (l : List Int) : Prop := l.Pairwise (· < ·)
theorem asc_sub : ∀ {a s : List Int}, Asc a → Asc s → (∀ x ∈ a, x ∈ s) → a.Sublist s
  | [], s, _, _, _ => List.nil_sublist s
  | x :: a, [], _, _, h => by have := h x (by simp); simp at this
  | x :: a, y :: s, ha, hs, h => by
    have ha' := List.pairwise_cons.1 ha
    have hs' := List.pairwise_cons.1 hs
    by_cases e : x = y
    · subst e
      refine (asc_sub ha'.2 hs'.2 fun z hz => ?_).cons_cons x
      have := h z (by simp [hz])
      rcases List.mem_cons.1 this with e | h'
      · have := ha'.1 z hz; omega
      · exact h'
    · have hx : x ∈ s := by
        rcases List.mem_cons.1 (h x (by simp)) with e' | h'
        · exact absurd e' e
        · exact h'
      have hxy := hs'.1 x hx
      refine (asc_sub ha hs'.2 fun z hz => ?_).cons y
      rcases List.mem_cons.1 (h z hz) with e' | h'
      · subst e'
        rcases List.mem_cons.1 hz with e2 | hz'
        · omega
        · have := ha'.1 z hz'; omega
      · exact h'
theorem badS_asc {n : Int} : ∀ {l : List Int} {last : Int}, badS n last l = false → Asc l ∧ ∀ x ∈ l, last < x ∧ x < n
  | [], _, _ => ⟨List.Pairwise.nil, fun x hx => by cases hx⟩
  | j :: l, last, h => by
    simp only [badS, Bool.or_eq_false_iff, decide_eq_false_iff_not] at h
    obtain ⟨⟨h1, h2⟩, h3⟩ := h
    obtain ⟨g1, g2⟩ := badS_asc h3
    refine ⟨List.pairwise_cons.2 ⟨fun x hx => (g2 x hx).1, g1⟩, fun x hx => ?_⟩
    rcases List.mem_cons.1 hx with e | hx'
    · subst e; omega
    · have := g2 x hx'; omega
theorem inS_mem {set : List Int} {c : Int} : inS set c = true ↔ c ∈ set := by
  unfold inS
  simp only [List.any_eq_true, decide_eq_true_eq]
  exact ⟨fun ⟨x, hx, e⟩ => e ▸ hx, fun h => ⟨c, h, rfl⟩⟩
theorem cvO_mem {set : List Int} {ts : List Term} : ∀ {k : Nat} {t : Term}, t ∈ cvO set ts k → inS set t.col = true ∧ t.num = 1 ∧ ∃ i, i < k ∧ t.col = (gt ts i).col
  | 0, t, h => by simp [cvO] at h
  | k + 1, t, h => by
    unfold cvO at h
    split at h
    · rename_i e
      rcases List.mem_append.1 h with h | h
      · obtain ⟨h1, h2, i, h3, h4⟩ := cvO_mem h
        exact ⟨h1, h2, i, by omega, h4⟩
      · simp only [List.mem_cons, List.not_mem_nil, or_false] at h
        subst h
        exact ⟨e, rfl, k, by omega, rfl⟩
    · obtain ⟨h1, h2, i, h3, h4⟩ := cvO_mem h
      exact ⟨h1, h2, i, by omega, h4⟩
theorem cvO_asc {set : List Int} {n : Nat} {ts : List Term} (hb : badT n (-1) ts = false) : ∀ k, k ≤ ts.length → Asc ((cvO set ts k).map (·.col))
  | 0, _ => List.Pairwise.nil
  | k + 1, hk => by
    have ih := cvO_asc (set := set) hb k (by omega)
    unfold cvO
    split
    · rw [List.map_append]
      refine List.pairwise_append.2 ⟨ih, List.pairwise_singleton _ _, fun a ha b hb' => ?_⟩
      simp only [List.map_cons, List.map_nil, List.mem_cons, List.not_mem_nil, or_false] at hb'
      subst hb'
      obtain ⟨t, ht, rfl⟩ := List.mem_map.1 ha
      obtain ⟨-, -, i, hi, e⟩ := cvO_mem ht
      rw [e]
      exact (badT_ok hb k (by omega)).2.2.2 i hi
    · exact ih
theorem cvO_sub {set : List Int} {n : Nat} {ts : List Term} (hb : badT n (-1) ts = false) {m last : Int} (hs : badS m last set = false) : ((cvO set ts ts.length).map (·.col)).Sublist set :=
  asc_sub (cvO_asc hb _ (Nat.le_refl _)) (badS_asc hs).1 fun x hx => by
    obtain ⟨t, ht, rfl⟩ := List.mem_map.1 hx
    exact inS_mem.1 (cvO_mem ht).1
theorem cvO_met {set : List Int} {n : Nat} {ts : List Term} (hb : badT n (-1) ts = false) {m last : Int} (hs : badS m last set = false) : (cvO set ts ts.length).length ≤ set.length := by
  have := (cvO_sub hb hs).length_le
  rwa [List.length_map] at this
/-- all that are meant are met: the row -/
theorem cvO_all {set : List Int} {n : Nat} {ts : List Term} (hb : badT n (-1) ts = false) {m last : Int} (hs : badS m last set = false) (hl : set.length ≤ (cvO set ts ts.length).length) : cvO set ts ts.length = set.map fun c => ⟨c, 1⟩ := by
  have e := (cvO_sub hb hs).eq_of_length_le (by rw [List.length_map]; exact hl)
  generalize hO : cvO set ts ts.length = O at *
  have h1 : ∀ t ∈ O, t = ⟨t.col, 1⟩ := fun t ht => by
    have := (cvO_mem (hO ▸ ht)).2.1
    cases t; simp_all
  rw [← e, List.map_map]
  clear e hl hO
  induction O with
  | nil => rfl
  | cons t O ih =>
    simp only [List.map_cons, Function.comp]
    rw [← ih fun t ht => h1 t (by simp [ht])]
    congr 1
    exact h1 t (by simp)
def cvR (set : List Int) : Row := ⟨.empty, set.map fun c => ⟨c, 1⟩, ⟨false, 0⟩, ⟨true, ((set.length : Int) - 1 : Int)⟩⟩
/-- whole numbers from 0 to 1 -/
theorem bin_01 {p : Prob} {x : List Rat} (h : holdsB p x true = true) {j : Nat} (hj : j < p.cols.length) (hc : binC (gt p.cols j) = true) : gt x j = 0 ∨ gt x j = 1 := by
  have hr := inB_iff.1 (holds_col h hj)
  unfold binC at hc
  simp only [Bool.and_eq_true, decide_eq_true_eq] at hc
  obtain ⟨⟨⟨⟨w, l⟩, u⟩, l0⟩, u1⟩ := hc
  have h1 := hr.1 l
  have h2 := hr.2 u
  rw [l0] at h1
  rw [u1] at h2
  have hd : (gt x j).den = 1 := by
    unfold holdsB at h
    simp only [Bool.and_eq_true, List.all_eq_true, List.mem_range] at h
    have := h.1 j hj
    unfold colB at this
    simp only [Bool.and_eq_true] at this
    simpa [w] using this.2
  have hx : ((gt x j).num : Rat) = gt x j := Rat.ext rfl hd.symm
  rw [← hx] at h1 h2 ⊢
  have h1' : (0 : Int) ≤ (gt x j).num := Rat.intCast_le_intCast.1 (by simpa using h1)
  have h2' : (gt x j).num ≤ (1 : Int) := Rat.intCast_le_intCast.1 (by simpa using h2)
  have : (gt x j).num = 0 ∨ (gt x j).num = 1 := by omega
  rcases this with e | e
  · exact .inl (by rw [e]; rfl)
  · exact .inr (by rw [e]; rfl)
theorem cover_sum {p : Prob} {x : List Rat} (h : holdsB p x true = true) {set : List Int} {ts : List Term} (hb : badT p.cols.length (-1) ts = false) (he : ∀ k, k < ts.length → cvE p set (gt ts k) = 0) : ∀ k, k ≤ ts.length →
    ∃ z : Nat, sumK x (cvO set ts k) (cvO set ts k).length = ((cvO set ts k).length : Rat) - (z : Rat) ∧ (z = 0 → cvS p set ts k ≤ sumK x ts k)
  | 0, _ => ⟨0, by simp only [cvO, sumK, List.length_nil]; grind, fun _ => Rat.le_refl⟩
  | k + 1, hk => by
    obtain ⟨z, h1, h2⟩ := cover_sum h hb he k (by omega)
    obtain ⟨b1, b2, b3, -⟩ := badT_ok hb k (by omega)
    have hj : (gt ts k).col.toNat < p.cols.length := by omega
    have e := he k (by omega)
    unfold cvE at e
    simp only [cvS, sumK, cvV]
    by_cases hi : inS set (gt ts k).col = true
    · rw [if_pos hi] at e ⊢
      unfold cvO
      rw [if_pos hi]
      have hc : binC (gt p.cols (gt ts k).col.toNat) = true := by
        by_cases c : binC (gt p.cols (gt ts k).col.toNat) = true ∧ ¬ (gt ts k).num < 0
        · exact c.1
        · rw [if_neg c] at e; cases e
      have g : gt (cvO set ts k ++ [one1 (gt ts k)]) (cvO set ts k).length = one1 (gt ts k) := by
        rw [← gt_get (by simp)]; simp
      have l : (cvO set ts k ++ [one1 (gt ts k)]).length = (cvO set ts k).length + 1 := by simp
      rw [l]
      simp only [sumK]
      rw [sumK_pre _ (Nat.le_refl _), g, h1]
      have c1 : (one1 (gt ts k)).num = 1 := rfl
      have c2 : (one1 (gt ts k)).col = (gt ts k).col := rfl
      rw [c1, c2]
      rcases bin_01 h hj hc with q | q
      · rw [q]
        refine ⟨z + 1, ?_, fun q => by omega⟩
        push_cast; grind
      · rw [q]
        refine ⟨z, ?_, fun q => ?_⟩
        · push_cast; grind
        · have := h2 q; grind
    · rw [if_neg hi] at e ⊢
      unfold cvO
      rw [if_neg hi]
      refine ⟨z, h1, fun q => ?_⟩
      have h2 := h2 q
      have hs : (sgT p (gt ts k)).has = true := by
        by_cases c : (sgT p (gt ts k)).has = true
        · exact c
        · rw [if_neg c] at e; cases e
      have hr := inB_iff.1 (holds_col h hj)
      unfold sgT sgC at hs ⊢
      by_cases hn : (gt ts k).num < 0
      · rw [if_pos hn] at hs ⊢
        have := Rat.mul_le_mul_of_nonneg_right (hr.2 hs) (show 0 ≤ -(gt ts k).num by grind)
        grind
      · rw [if_neg hn] at hs ⊢
        have := Rat.mul_le_mul_of_nonneg_right (hr.1 hs) (show 0 ≤ (gt ts k).num by grind)
        grind
/-- each whole point keeps the row -/
theorem cover {p : Prob} (hv : validC p = 0) {x : List Rat} (h : holdsB p x true = true) {set : List Int} {i : Nat} (hi : i < p.rows.length) (hs : badS p.cols.length (-1) set = false)
    (hh : (gt p.rows i).high.has = true) (he : ∀ k, k < (gt p.rows i).terms.length → cvE p set (gt (gt p.rows i).terms k) = 0) (hl : set.length ≤ (cvO set (gt p.rows i).terms (gt p.rows i).terms.length).length)
    (ho : (gt p.rows i).high.at' < cvS p set (gt p.rows i).terms (gt p.rows i).terms.length) : sumK x (cvR set).terms (cvR set).terms.length ≤ (cvR set).high.at' := by
  have hb := (valid_yes hv).2.2 i hi
  obtain ⟨z, h1, h2⟩ := cover_sum h hb he _ (Nat.le_refl _)
  rw [cvO_all hb hs hl] at h1
  have hr := (inB_iff.1 (holds_row h hi)).2 hh
  unfold rowS at hr
  have hz : z ≠ 0 := fun q => by
    have := Rat.le_trans (h2 q) hr
    exact absurd ho (Rat.not_lt.2 this)
  show sumK x (set.map fun c => ⟨c, 1⟩) (set.map fun c => (⟨c, 1⟩ : Term)).length ≤ (((set.length : Int) - 1 : Int) : Rat)
  rw [h1, List.length_map]
  have : (1 : Rat) ≤ (z : Rat) := by
    have : ((1 : Nat) : Rat) ≤ (z : Rat) := Rat.natCast_le_natCast.2 (by omega)
    simpa using this
  rw [Rat.intCast_sub]
  have c1 : (((set.length : Nat) : Int) : Rat) = ((set.length : Nat) : Rat) := rfl
  have c2 : ((1 : Int) : Rat) = 1 := rfl
  rw [c1, c2]
  grind
end Go.Li

