/- Determinants of tables of fractions: as a plain law. A text of the prover's own; it names no program. A table taken apart (its rows in another order are a low part times a high part), what it solves, its determinant: as plain laws. A text of the prover's own; it names no program. A text of the prover's own. -/
import Derived.Test.YtnimjdcaajmfcaaGreatDoorPPl
namespace Go.Dt
open Go
abbrev Mat := Nat → Nat → Rat
def sumR (f : Nat → Rat) : Nat → Rat
  | 0 => 0
  | k + 1 => sumR f k + f k
theorem sumR_congr {f g : Nat → Rat} : ∀ n, (∀ i, i < n → f i = g i) → sumR f n = sumR g n
  | 0, _ => rfl
  | n + 1, h => by simp only [sumR]; rw [sumR_congr n fun i hi => h i (by omega), h n (by omega)]
theorem sumR_zero {f : Nat → Rat} (n : Nat) (h : ∀ i, i < n → f i = 0) : sumR f n = 0 := by
  induction n with
  | zero => rfl
  | succ n ih => simp only [sumR]; rw [ih fun i hi => h i (by omega), h n (by omega)]; grind
theorem sumR_add (f g : Nat → Rat) : ∀ n, sumR (fun i => f i + g i) n = sumR f n + sumR g n
  | 0 => by simp only [sumR]; grind
  | n + 1 => by simp only [sumR]; rw [sumR_add f g n]; grind
theorem sumR_mul (c : Rat) (f : Nat → Rat) : ∀ n, sumR (fun i => c * f i) n = c * sumR f n
  | 0 => by simp only [sumR]; grind
  | n + 1 => by simp only [sumR]; rw [sumR_mul c f n]; grind
theorem sumR_neg (f : Nat → Rat) : ∀ n, sumR (fun i => -f i) n = -sumR f n
  | 0 => by simp only [sumR]; grind
  | n + 1 => by simp only [sumR]; rw [sumR_neg f n]; grind
theorem sumR_one {f : Nat → Rat} {p : Nat} : ∀ n, p < n → (∀ i, i < n → i ≠ p → f i = 0) → sumR f n = f p
  | n + 1, hp, h => by
    simp only [sumR]
    by_cases e : p = n
    · subst e
      rw [sumR_zero p fun i hi => h i (by omega) (by omega)]; grind
    · rw [sumR_one n (by omega) fun i hi => h i (by omega), h n (by omega) (fun q => e q.symm)]; grind
theorem sumR_two {f : Nat → Rat} {p q : Nat} (hpq : p < q) : ∀ n, q < n → (∀ i, i < n → i ≠ p → i ≠ q → f i = 0) → sumR f n = f p + f q
  | n + 1, hq, h => by
    simp only [sumR]
    by_cases e : q = n
    · subst e
      rw [sumR_one (p := p) q hpq fun i hi hne => h i (by omega) hne (by omega)]
    · rw [sumR_two hpq n (by omega) fun i hi => h i (by omega), h n (by omega) (by omega) (fun q => e q.symm)]; grind
theorem sumR_swap (f : Nat → Nat → Rat) (m : Nat) : ∀ n, sumR (fun i => sumR (fun j => f i j) m) n = sumR (fun j => sumR (fun i => f i j) n) m
  | 0 => by
    simp only [sumR]
    exact (sumR_zero m fun j _ => rfl).symm
  | n + 1 => by
    simp only [sumR]
    rw [sumR_swap f m n, ← sumR_add]
def sg (i : Nat) : Rat := if i % 2 = 1 then -1 else 1
theorem sg_succ (i : Nat) : sg (i + 1) = -sg i := by
  unfold sg
  by_cases h : i % 2 = 1
  · rw [if_pos h, if_neg (by omega)]; grind
  · rw [if_neg h, if_pos (by omega)]
/-- without row i and the first column -/
def minr (A : Mat) (i : Nat) : Mat := fun r c => A (if r < i then r else r + 1) (c + 1)
def det : Nat → Mat → Rat
  | 0, _ => 1
  | n + 1, A => sumR (fun i => sg i * A i 0 * det n (minr A i)) (n + 1)
theorem det_congr : ∀ {n : Nat} {A B : Mat}, (∀ r c, r < n → c < n → A r c = B r c) → det n A = det n B
  | 0, _, _, _ => rfl
  | n + 1, A, B, h => by
    simp only [det]
    refine sumR_congr _ fun i hi => ?_
    rw [h i 0 hi (by omega)]
    rw [det_congr (A := minr A i) (B := minr B i) fun r c hr hc => ?_]
    simp only [minr]
    refine h _ _ ?_ (by omega)
    split <;> omega
/-- linear in row p -/
theorem det_row : ∀ {n : Nat} {A B C : Mat} {a b : Rat} {p : Nat}, p < n → (∀ r c, r ≠ p → A r c = B r c) → (∀ r c, r ≠ p → A r c = C r c) → (∀ c, A p c = a * B p c + b * C p c) → det n A = a * det n B + b * det n C
  | n + 1, A, B, C, a, b, p, hp, h1, h2, h3 => by
    simp only [det]
    rw [← sumR_mul, ← sumR_mul, ← sumR_add]
    refine sumR_congr _ fun i hi => ?_
    by_cases e : i = p
    · subst e
      have m1 : minr A i = minr B i := by
        funext r c
        simp only [minr]
        exact h1 _ _ (by split <;> omega)
      have m2 : minr A i = minr C i := by
        funext r c
        simp only [minr]
        exact h2 _ _ (by split <;> omega)
      rw [← m1, ← m2, h3]; grind
    · have hd : det n (minr A i) = a * det n (minr B i) + b * det n (minr C i) := by
        refine det_row (p := if p < i then p else p - 1) (by split <;> omega) (fun r c hr => ?_) (fun r c hr => ?_) (fun c => ?_)
        · simp only [minr]
          refine h1 _ _ ?_
          split at hr <;> split <;> omega
        · simp only [minr]
          refine h2 _ _ ?_
          split at hr <;> split <;> omega
        · simp only [minr]
          have : (if (if p < i then p else p - 1) < i then (if p < i then p else p - 1) else (if p < i then p else p - 1) + 1) = p := by
            by_cases c : p < i
            · rw [if_pos c, if_pos c]
            · rw [if_neg c, if_neg (by omega)]; omega
          rw [this]; exact h3 _
      rw [hd, h1 i 0 e]
      have : B i 0 = C i 0 := by rw [← h1 i 0 e, h2 i 0 e]
      rw [← this]; grind
/-- two rows that stand side by side are the same -/
theorem det_adj : ∀ {n : Nat} {A : Mat} {p : Nat}, p + 1 < n → (∀ c, A p c = A (p + 1) c) → det n A = 0
  | n + 1, A, p, hp, h => by
    simp only [det]
    rw [sumR_two (p := p) (q := p + 1) (by omega) (n + 1) hp fun i hi h1 h2 => ?_]
    · have m1 : minr A p = minr A (p + 1) := by
        funext r c
        simp only [minr]
        by_cases e : r = p
        · subst e
          rw [if_neg (by omega), if_pos (by omega)]; exact (h _).symm
        · by_cases q : r < p
          · rw [if_pos q, if_pos (by omega)]
          · rw [if_neg q, if_neg (by omega)]
      rw [m1, sg_succ, ← h 0]; grind
    · have : det n (minr A i) = 0 := by
        refine det_adj (p := if p < i then p else p - 1) (by split <;> omega) fun c => ?_
        simp only [minr]
        by_cases q : p < i
        · rw [if_pos q, if_pos q, if_pos (by omega)]; exact h _
        · rw [if_neg q, if_neg (by omega), if_neg (by omega), show p - 1 + 1 = p by omega]; exact h _
      rw [this]; grind
def setR (A : Mat) (p : Nat) (v : Nat → Rat) : Mat := fun r c => if r = p then v c else A r c
def swpR (A : Mat) (p q : Nat) : Mat := fun r c => if r = p then A q c else if r = q then A p c else A r c
/-- rows p and q change places, if equal rows there make nothing -/
theorem det_pol {n : Nat} {A : Mat} {p q : Nat} (hp : p < n) (hq : q < n) (hpq : p ≠ q) (hz : ∀ v, det n (setR (setR A p v) q v) = 0) : det n (swpR A p q) = -det n A := by
  have e0 := hz (fun c => A p c + A q c)
  have e1 := hz (A p)
  have e2 := hz (A q)
  have s1 : det n (setR (setR A p fun c => A p c + A q c) q fun c => A p c + A q c) = 1 * det n (setR A q fun c => A p c + A q c) + 1 * det n (setR (setR A p (A q)) q fun c => A p c + A q c) := by
    refine det_row (p := p) hp (fun r c hr => ?_) (fun r c hr => ?_) (fun c => ?_)
    · simp only [setR, if_neg hr]
    · simp only [setR, if_neg hr]
    · simp only [setR, if_neg hpq, if_true]; grind
  have s2 : det n (setR A q fun c => A p c + A q c) = 1 * det n (setR (setR A p (A p)) q (A p)) + 1 * det n A := by
    refine det_row (p := q) hq (fun r c hr => ?_) (fun r c hr => ?_) (fun c => ?_)
    · simp only [setR, if_neg hr]; split
      · rename_i e; rw [e]
      · rfl
    · simp only [setR, if_neg hr]
    · simp only [setR, if_true]; grind
  have s3 : det n (setR (setR A p (A q)) q fun c => A p c + A q c) = 1 * det n (swpR A p q) + 1 * det n (setR (setR A p (A q)) q (A q)) := by
    refine det_row (p := q) hq (fun r c hr => ?_) (fun r c hr => ?_) (fun c => ?_)
    · simp only [setR, swpR, if_neg hr]
    · simp only [setR, if_neg hr]
    · simp only [setR, swpR, if_true, if_neg (fun e : q = p => hpq e.symm)]; grind
  rw [s1, s2, s3, e1, e2] at e0
  grind
/-- any two rows are the same -/
theorem det_same {n : Nat} : ∀ (d : Nat) {A : Mat} {p : Nat}, p + d + 1 < n → (∀ c, A p c = A (p + d + 1) c) → det n A = 0
  | 0, A, p, hn, h => det_adj hn h
  | d + 1, A, p, hn, h => by
    have hs := det_pol (n := n) (A := A) (p := p) (q := p + 1) (by omega) (by omega) (by omega) fun v => by
      refine det_adj (p := p) (by omega) fun c => ?_
      simp only [setR, if_true]
      rw [if_neg (by omega)]
    have h0 : det n (swpR A p (p + 1)) = 0 := by
      refine det_same d (p := p + 1) (by omega) fun c => ?_
      simp only [swpR, if_true]
      rw [if_neg (by omega), if_neg (by omega), if_neg (by omega), h, show p + 1 + d + 1 = p + (d + 1) + 1 by omega]
    rw [h0] at hs
    grind
theorem det_eqr {n : Nat} {A : Mat} {p q : Nat} (hp : p < n) (hq : q < n) (hpq : p ≠ q) (h : ∀ c, A p c = A q c) : det n A = 0 := by
  rcases Nat.lt_or_ge p q with e | e
  · exact det_same (q - p - 1) (p := p) (by omega) (by rw [show p + (q - p - 1) + 1 = q by omega]; exact h)
  · exact det_same (p - q - 1) (p := q) (by omega) (by rw [show q + (p - q - 1) + 1 = p by omega]; exact fun c => (h c).symm)
theorem det_swp {n : Nat} {A : Mat} {p q : Nat} (hp : p < n) (hq : q < n) (hpq : p ≠ q) : det n (swpR A p q) = -det n A := by
  refine det_pol hp hq hpq fun v => det_eqr hp hq hpq fun c => ?_
  simp only [setR, if_true, if_neg hpq]
/-- so much of another row is added -/
theorem det_add {n : Nat} {A : Mat} {p q : Nat} (hp : p < n) (hq : q < n) (hpq : p ≠ q) (a : Rat) : det n (setR A p fun c => A p c + a * A q c) = det n A := by
  have h := det_row (n := n) (A := setR A p fun c => A p c + a * A q c) (B := A) (C := setR A p (A q)) (a := 1) (b := a) (p := p) hp (fun r c hr => ?_) (fun r c hr => ?_) (fun c => ?_)
  · have z : det n (setR A p (A q)) = 0 := det_eqr hp hq hpq fun c => by
      simp only [setR, if_true, if_neg (fun e : q = p => hpq e.symm)]
    rw [h, z]; grind
  · simp only [setR, if_neg hr]
  · simp only [setR, if_neg hr]
  · simp only [setR, if_true]; grind
/-- all that stands in the first column stands in row p -/
theorem det_first {n : Nat} {A : Mat} {p : Nat} (hp : p < n + 1) (h : ∀ r, r < n + 1 → r ≠ p → A r 0 = 0) : det (n + 1) A = sg p * A p 0 * det n (minr A p) := by
  simp only [det]
  exact sumR_one (p := p) (n + 1) hp fun i hi hne => by rw [h i hi hne]; grind
/-- the product of what stands aslant -/
def prodD (A : Mat) : Nat → Rat
  | 0 => 1
  | k + 1 => prodD A k * A k k
theorem prodD_succ (A : Mat) : ∀ n, prodD A (n + 1) = A 0 0 * prodD (fun r c => A (r + 1) (c + 1)) n
  | 0 => by simp only [prodD]; grind
  | n + 1 => by
    rw [prodD, prodD_succ A n]
    simp only [prodD]; grind
theorem det_tri : ∀ {n : Nat} {A : Mat}, (∀ r c, r < n → c < r → A r c = 0) → det n A = prodD A n
  | 0, _, _ => rfl
  | n + 1, A, h => by
    rw [det_first (p := 0) (by omega) fun r hr hne => h r 0 hr (by omega), prodD_succ]
    have : det n (minr A 0) = prodD (minr A 0) n := det_tri fun r c hr hc => by
      simp only [minr]
      rw [if_neg (by omega)]
      exact h _ _ (by omega) (by omega)
    rw [this]
    have e : minr A 0 = fun r c => A (r + 1) (c + 1) := by
      funext r c
      simp only [minr]
      rw [if_neg (by omega)]
    rw [e]
    unfold sg; grind
/-! columns -/
/-- linear in column p -/
theorem det_col : ∀ {n : Nat} {A B C : Mat} {a b : Rat} {p : Nat}, p < n → (∀ r c, c ≠ p → A r c = B r c) → (∀ r c, c ≠ p → A r c = C r c) → (∀ r, A r p = a * B r p + b * C r p) → det n A = a * det n B + b * det n C
  | n + 1, A, B, C, a, b, 0, _, h1, h2, h3 => by
    simp only [det]
    rw [← sumR_mul, ← sumR_mul, ← sumR_add]
    refine sumR_congr _ fun i _ => ?_
    have m1 : minr A i = minr B i := by
      funext r c
      exact h1 _ _ (by omega)
    have m2 : minr A i = minr C i := by
      funext r c
      exact h2 _ _ (by omega)
    rw [← m1, ← m2, h3]; grind
  | n + 1, A, B, C, a, b, p + 1, hp, h1, h2, h3 => by
    simp only [det]
    rw [← sumR_mul, ← sumR_mul, ← sumR_add]
    refine sumR_congr _ fun i _ => ?_
    have hd : det n (minr A i) = a * det n (minr B i) + b * det n (minr C i) :=
      det_col (p := p) (by omega) (fun r c hc => h1 _ _ (by omega)) (fun r c hc => h2 _ _ (by omega)) (fun r => h3 _)
    rw [hd, h1 i 0 (by omega)]
    have : B i 0 = C i 0 := by rw [← h1 i 0 (by omega), h2 i 0 (by omega)]
    rw [← this]; grind
def sk (i j : Nat) : Nat := if j < i then j else j + 1
theorem sumR_sk (f : Nat → Rat) (i : Nat) : ∀ m, sumR (fun j => f (sk i j)) m = if m ≤ i then sumR f m else sumR f (m + 1) - f i
  | 0 => by rw [if_pos (by omega)]; rfl
  | m + 1 => by
    simp only [sumR]
    rw [sumR_sk f i m]
    unfold sk
    rcases Nat.lt_trichotomy m i with h | h | h
    · rw [if_pos (by omega), if_pos h, if_pos (by omega)]
    · subst h
      rw [if_pos (by omega), if_neg (by omega), if_neg (by omega)]; grind
    · rw [if_neg (by omega), if_neg (by omega), if_neg (by omega)]
      simp only [sumR]; grind
/-- the two rows that are left out may be named in either order -/
theorem minr_two (A : Mat) {a b : Nat} (h : a < b) : minr (minr A b) a = minr (minr A a) (b - 1) := by
  funext r c
  simp only [minr]
  by_cases h1 : r < a
  · rw [if_pos h1, if_pos (by omega), if_pos (show r < b - 1 by omega), if_pos h1]
  · rw [if_neg h1]
    by_cases h2 : r < b - 1
    · rw [if_pos (by omega), if_pos h2, if_neg h1]
    · rw [if_neg (by omega), if_neg h2, if_neg (by omega)]
/-- the first two columns are the same -/
theorem det_c01 {n : Nat} {A : Mat} (h : ∀ r, A r 0 = A r 1) : det (n + 2) A = 0 := by
  let H : Nat → Nat → Rat := fun i k => if k = i then 0 else sg i * sg (if k < i then k else k - 1) * (A i 0 * A k 0) * det n (minr (minr A i) (if k < i then k else k - 1))
  have hii : ∀ i, H i i = 0 := fun i => by simp only [H, if_true]
  have hlt : ∀ a b, a < b → H a b = -H b a := fun a b q => by
    simp only [H]
    rw [if_neg (by omega), if_neg (by omega), if_neg (by omega), if_pos q, minr_two A q]
    have : sg b = -sg (b - 1) := by rw [← sg_succ, show b - 1 + 1 = b by omega]
    rw [this]; grind
  have hanti : ∀ i k, H i k = -H k i := fun i k => by
    rcases Nat.lt_trichotomy i k with q | q | q
    · exact hlt i k q
    · subst q; rw [hii]; grind
    · rw [hlt k i q]; grind
  have e : det (n + 2) A = sumR (fun i => sumR (fun k => H i k) (n + 2)) (n + 2) := by
    show sumR (fun i => sg i * A i 0 * det (n + 1) (minr A i)) (n + 2) = _
    refine sumR_congr _ fun i hi => ?_
    have hs : sumR (fun k => H i k) (n + 2) = sumR (fun j => H i (sk i j)) (n + 1) := by
      rw [sumR_sk (H i) i (n + 1)]
      split
      · have : i = n + 1 := by omega
        subst this
        simp only [sumR]
        rw [hii]; grind
      · rw [hii]; grind
    rw [hs]
    show sg i * A i 0 * sumR (fun j => sg j * minr A i j 0 * det n (minr (minr A i) j)) (n + 1) = _
    rw [← sumR_mul]
    refine sumR_congr _ fun j hj => ?_
    have e1 : sk i j ≠ i := by unfold sk; split <;> omega
    have e2 : (if sk i j < i then sk i j else sk i j - 1) = j := by
      unfold sk
      by_cases q : j < i
      · rw [if_pos q, if_pos q]
      · rw [if_neg q, if_neg (by omega)]; omega
    have e3 : minr A i j 0 = A (sk i j) 0 := by
      rw [h]; rfl
    simp only [H]
    rw [if_neg e1, e2, e3]; grind
  have s := sumR_swap H (n + 2) (n + 2)
  have s2 : sumR (fun j => sumR (fun i => H i j) (n + 2)) (n + 2) = -sumR (fun i => sumR (fun k => H i k) (n + 2)) (n + 2) := by
    rw [← sumR_neg]
    refine sumR_congr _ fun j _ => ?_
    rw [← sumR_neg]
    exact sumR_congr _ fun i _ => hanti i j
  rw [s2] at s
  rw [e]; grind
/-- two columns that stand side by side are the same -/
theorem det_cadj : ∀ {n : Nat} {A : Mat} {p : Nat}, p + 1 < n → (∀ r, A r p = A r (p + 1)) → det n A = 0
  | n + 2, A, 0, _, h => det_c01 h
  | n + 1, A, p + 1, hp, h => by
    simp only [det]
    refine sumR_zero _ fun i _ => ?_
    have : det n (minr A i) = 0 := det_cadj (p := p) (by omega) fun r => h _
    rw [this]; grind
def setC (A : Mat) (p : Nat) (v : Nat → Rat) : Mat := fun r c => if c = p then v r else A r c
def swpC (A : Mat) (p q : Nat) : Mat := fun r c => if c = p then A r q else if c = q then A r p else A r c
theorem det_cpol {n : Nat} {A : Mat} {p q : Nat} (hp : p < n) (hq : q < n) (hpq : p ≠ q) (hz : ∀ v, det n (setC (setC A p v) q v) = 0) : det n (swpC A p q) = -det n A := by
  have e0 := hz (fun r => A r p + A r q)
  have e1 := hz (fun r => A r p)
  have e2 := hz (fun r => A r q)
  have s1 : det n (setC (setC A p fun r => A r p + A r q) q fun r => A r p + A r q) = 1 * det n (setC A q fun r => A r p + A r q) + 1 * det n (setC (setC A p fun r => A r q) q fun r => A r p + A r q) := by
    refine det_col (p := p) hp (fun r c hr => ?_) (fun r c hr => ?_) (fun r => ?_)
    · simp only [setC, if_neg hr]
    · simp only [setC, if_neg hr]
    · simp only [setC, if_neg hpq, if_true]; grind
  have s2 : det n (setC A q fun r => A r p + A r q) = 1 * det n (setC (setC A p fun r => A r p) q fun r => A r p) + 1 * det n A := by
    refine det_col (p := q) hq (fun r c hr => ?_) (fun r c hr => ?_) (fun r => ?_)
    · simp only [setC, if_neg hr]; split
      · rename_i e; rw [e]
      · rfl
    · simp only [setC, if_neg hr]
    · simp only [setC, if_true]; grind
  have s3 : det n (setC (setC A p fun r => A r q) q fun r => A r p + A r q) = 1 * det n (swpC A p q) + 1 * det n (setC (setC A p fun r => A r q) q fun r => A r q) := by
    refine det_col (p := q) hq (fun r c hr => ?_) (fun r c hr => ?_) (fun r => ?_)
    · simp only [setC, swpC, if_neg hr]
    · simp only [setC, if_neg hr]
    · simp only [setC, swpC, if_true, if_neg (fun e : q = p => hpq e.symm)]; grind
  rw [s1, s2, s3, e1, e2] at e0
  grind
theorem det_csame {n : Nat} : ∀ (d : Nat) {A : Mat} {p : Nat}, p + d + 1 < n → (∀ r, A r p = A r (p + d + 1)) → det n A = 0
  | 0, A, p, hn, h => det_cadj hn h
  | d + 1, A, p, hn, h => by
    have hs := det_cpol (n := n) (A := A) (p := p) (q := p + 1) (by omega) (by omega) (by omega) fun v => by
      refine det_cadj (p := p) (by omega) fun c => ?_
      simp only [setC, if_true]
      rw [if_neg (by omega)]
    have h0 : det n (swpC A p (p + 1)) = 0 := by
      refine det_csame d (p := p + 1) (by omega) fun c => ?_
      simp only [swpC, if_true]
      rw [if_neg (by omega), if_neg (by omega), if_neg (by omega), h, show p + 1 + d + 1 = p + (d + 1) + 1 by omega]
    rw [h0] at hs
    grind
theorem det_eqc {n : Nat} {A : Mat} {p q : Nat} (hp : p < n) (hq : q < n) (hpq : p ≠ q) (h : ∀ r, A r p = A r q) : det n A = 0 := by
  rcases Nat.lt_or_ge p q with e | e
  · exact det_csame (q - p - 1) (p := p) (by omega) (by rw [show p + (q - p - 1) + 1 = q by omega]; exact h)
  · exact det_csame (p - q - 1) (p := q) (by omega) (by rw [show q + (p - q - 1) + 1 = p by omega]; exact fun c => (h c).symm)
/-- A times x, in row r -/
def mulV (n : Nat) (A : Mat) (x : Nat → Rat) (r : Nat) : Rat := sumR (fun c => A r c * x c) n
/-- CRAMER: with A x in the place of a column the determinant is so many times as great -/
theorem det_cramer {n : Nat} (A : Mat) (x : Nat → Rat) {p : Nat} (hp : p < n) : det n (setC A p (mulV n A x)) = x p * det n A := by
  have key : ∀ k, k ≤ n → det n (setC A p (mulV k A x)) = if p < k then x p * det n A else 0 := fun k => by
    induction k with
    | zero =>
      intro _
      rw [if_neg (by omega)]
      have h := det_col (n := n) (A := setC A p (mulV 0 A x)) (B := A) (C := A) (a := 0) (b := 0) (p := p) hp (fun r c hc => by simp only [setC, if_neg hc]) (fun r c hc => by simp only [setC, if_neg hc]) (fun r => by simp only [setC, if_true, mulV, sumR]; grind)
      rw [h]; grind
    | succ k ih =>
      intro hk
      have h := det_col (n := n) (A := setC A p (mulV (k + 1) A x)) (B := setC A p (mulV k A x)) (C := setC A p fun r => A r k) (a := 1) (b := x k) (p := p) hp (fun r c hc => by simp only [setC, if_neg hc]) (fun r c hc => by simp only [setC, if_neg hc]) (fun r => by simp only [setC, if_true, mulV, sumR]; grind)
      rw [h, ih (by omega)]
      by_cases e : p = k
      · subst e
        have : setC A p (fun r => A r p) = A := by
          funext r c
          simp only [setC]; split
          · rename_i e; rw [e]
          · rfl
        rw [this, if_neg (by omega), if_pos (by omega)]; grind
      · have : det n (setC A p fun r => A r k) = 0 := det_eqc hp (q := k) (by omega) e fun r => by
          simp only [setC, if_true, if_neg (fun q : k = p => e q.symm)]
        rw [this]
        by_cases q : p < k
        · rw [if_pos q, if_pos (by omega)]; grind
        · rw [if_neg q, if_neg (by omega)]; grind
  have := key n (Nat.le_refl _)
  rwa [if_pos hp] at this
end Go.Dt
namespace Go.Dt
open Go
theorem sumR_sub (f g : Nat → Rat) : ∀ n, sumR (fun i => f i - g i) n = sumR f n - sumR g n
  | 0 => by simp only [sumR]; grind
  | n + 1 => by simp only [sumR]; rw [sumR_sub f g n]; grind
theorem sumR_mulr (c : Rat) (f : Nat → Rat) : ∀ n, sumR (fun i => f i * c) n = sumR f n * c
  | 0 => by simp only [sumR]; grind
  | n + 1 => by simp only [sumR]; rw [sumR_mulr c f n]; grind
/-- what lies behind m is nothing -/
theorem sumR_cut {f : Nat → Rat} {m : Nat} : ∀ n, m ≤ n → (∀ i, m ≤ i → i < n → f i = 0) → sumR f n = sumR f m
  | 0, h, _ => by rw [show m = 0 by omega]
  | n + 1, h, hz => by
    by_cases e : m = n + 1
    · rw [e]
    · simp only [sumR]
      rw [sumR_cut n (by omega) fun i hi hi' => hz i hi (by omega), hz n (by omega) (by omega)]; grind
/-- to many rows so much of row k is added -/
theorem det_adds {n k : Nat} {B : Mat} (hk : k < n) (a : Nat → Rat) : ∀ m, m ≤ n → det n (fun i c => if k < i ∧ i < m then B i c + a i * B k c else B i c) = det n B
  | 0, _ => det_congr fun r c _ _ => by rw [if_neg (by omega)]
  | m + 1, hm => by
    by_cases h : k < m
    · have e := det_add (n := n) (A := fun i c => if k < i ∧ i < m then B i c + a i * B k c else B i c) (p := m) (q := k) (by omega) hk (by omega) (a m)
      rw [det_adds hk a m (by omega)] at e
      rw [← e]
      refine det_congr fun r c _ _ => ?_
      simp only [setR]
      by_cases e1 : r = m
      · subst e1
        rw [if_pos rfl, if_pos ⟨h, by omega⟩, if_neg (fun q => by omega), if_neg (fun q => by omega)]
      · rw [if_neg e1]
        by_cases e2 : k < r ∧ r < m
        · rw [if_pos e2, if_pos ⟨e2.1, by omega⟩]
        · rw [if_neg e2, if_neg (fun q => e2 ⟨q.1, by omega⟩)]
    · rw [← det_adds hk a m (by omega)]
      refine det_congr fun r c _ _ => ?_
      rw [if_neg (fun q => by omega), if_neg (fun q => by omega)]
/-- below, all is nought up to column k, and so is column k -/
theorem det_zero : ∀ {k n : Nat} {A : Mat}, k < n → (∀ r c, r < n → c < r → c < k → A r c = 0) → (∀ r, k ≤ r → r < n → A r k = 0) → det n A = 0
  | 0, n + 1, A, _, _, h => by
    simp only [det]
    exact sumR_zero _ fun i hi => by rw [h i (by omega) hi]; grind
  | k + 1, n + 1, A, hk, h1, h2 => by
    rw [det_first (p := 0) (by omega) fun r hr hne => h1 r 0 hr (by omega) (by omega)]
    have : det n (minr A 0) = 0 := det_zero (k := k) (by omega) (fun r c hr hc hck => by
      simp only [minr]
      rw [if_neg (by omega)]
      exact h1 _ _ (by omega) (by omega) (by omega)) (fun r hr hr' => by
      simp only [minr]
      rw [if_neg (by omega)]
      exact h2 _ (by omega) (by omega))
    rw [this]; grind
def ut (M : Mat) (j c : Nat) : Rat := if j ≤ c then M j c else 0
def upM (k : Nat) (M : Mat) : Mat := fun i c => if c < i ∧ c < k then 0 else M i c
def sgn (odd : Bool) : Rat := if odd = true then -1 else 1
/-- a table that is taken apart up to column k -/
structure LuI (n : Nat) (A : Mat) (k : Nat) (M : Mat) (ord : Nat → Nat) (odd : Bool) : Prop where
  lt : ∀ i, i < n → ord i < n
  inj : ∀ i j, i < n → j < n → ord i = ord j → i = j
  sur : ∀ r, r < n → ∃ i, i < n ∧ ord i = r
  eq : ∀ i c, i < n → c < n → A (ord i) c = sumR (fun j => M i j * ut M j c) (min i k) + (if i < k then ut M i c else if c < k then 0 else M i c)
  piv : ∀ j, j < k → M j j ≠ 0
  det : Dt.det n (upM k M) = sgn odd * Dt.det n A
theorem LuI.init {n : Nat} {A : Mat} : LuI n A 0 A (fun i => i) false where
  lt i hi := hi
  inj i j _ _ h := h
  sur r hr := ⟨r, hr, rfl⟩
  eq i c _ _ := by rw [Nat.min_zero, if_neg (by omega), if_neg (by omega)]; simp only [sumR]; grind
  piv j hj := absurd hj (by omega)
  det := by
    rw [det_congr (B := A) fun r c _ _ => by simp only [upM]; rw [if_neg (by omega)]]
    unfold sgn; rw [if_neg (by simp)]; grind
def swpO (ord : Nat → Nat) (k t : Nat) : Nat → Nat := fun i => if i = k then ord t else if i = t then ord k else ord i
theorem LuI.swap {n : Nat} {A : Mat} {k : Nat} {M : Mat} {ord : Nat → Nat} {odd : Bool} (h : LuI n A k M ord odd) {t : Nat} (hk : k < n) (hkt : k < t) (ht : t < n) : LuI n A k (swpR M k t) (swpO ord k t) (!odd) where
  lt i hi := by unfold swpO; split; exact h.lt t ht; split; exact h.lt k hk; exact h.lt i hi
  inj i j hi hj e := by
    unfold swpO at e
    by_cases a1 : i = k <;> by_cases a2 : i = t <;> by_cases b1 : j = k <;> by_cases b2 : j = t <;> simp only [a1, a2, b1, b2, if_true, if_false] at e ⊢ <;> first
      | omega
      | (have := h.inj _ _ (by omega) (by omega) e; omega)
      | (rw [if_neg (by omega)] at e; have := h.inj _ _ (by omega) (by omega) e; omega)
      | (rw [if_neg (by omega), if_neg (by omega)] at e; have := h.inj _ _ (by omega) (by omega) e; omega)
  sur r hr := by
    obtain ⟨i, hi, e⟩ := h.sur r hr
    by_cases a1 : i = k
    · refine ⟨t, ht, ?_⟩
      unfold swpO; rw [if_neg (by omega), if_pos rfl, ← a1]; exact e
    · by_cases a2 : i = t
      · refine ⟨k, hk, ?_⟩
        unfold swpO; rw [if_pos rfl, ← a2]; exact e
      · refine ⟨i, hi, ?_⟩
        unfold swpO; rw [if_neg a1, if_neg a2]; exact e
  eq i c hi hc := by
    have su : ∀ i m, m ≤ k → (∀ j, j < k → swpR M k t i j = M (if i = k then t else if i = t then k else i) j) → sumR (fun j => swpR M k t i j * ut (swpR M k t) j c) m = sumR (fun j => M (if i = k then t else if i = t then k else i) j * ut M j c) m := fun i m hm hj => by
      refine sumR_congr m fun j q => ?_
      rw [hj j (by omega)]
      congr 1
      unfold ut swpR
      rw [if_neg (show ¬ j = k by omega), if_neg (show ¬ j = t by omega)]
    have row : ∀ i c, swpR M k t i c = M (if i = k then t else if i = t then k else i) c := fun i c => by
      unfold swpR; split
      · rfl
      · split <;> rfl
    have ho : swpO ord k t i = ord (if i = k then t else if i = t then k else i) := by
      unfold swpO; split
      · rfl
      · split <;> rfl
    rw [ho, su i (min i k) (by omega) (fun j _ => row i j)]
    by_cases a1 : i = k
    · rw [if_pos a1, h.eq t c ht hc, show min t k = k by omega, show min i k = k by omega, if_neg (show ¬ t < k by omega), if_neg (show ¬ i < k by omega), row, if_pos a1]
    · rw [if_neg a1]
      by_cases a2 : i = t
      · rw [if_pos a2, h.eq k c hk hc, show min k k = k by omega, show min i k = k by omega, if_neg (show ¬ k < k by omega), if_neg (show ¬ i < k by omega), row, if_neg a1, if_pos a2]
      · rw [if_neg a2, h.eq i c hi hc]
        congr 1
        by_cases q : i < k
        · rw [if_pos q, if_pos q]
          unfold ut; rw [row, if_neg a1, if_neg a2]
        · rw [if_neg q, if_neg q, row, if_neg a1, if_neg a2]
  piv j hj := by
    unfold swpR
    rw [if_neg (by omega), if_neg (by omega)]
    exact h.piv j hj
  det := by
    have e : Dt.det n (upM k (swpR M k t)) = Dt.det n (swpR (upM k M) k t) := det_congr fun r c _ _ => by
      have S : swpR (upM k M) k t r c = if r = k then upM k M t c else if r = t then upM k M k c else upM k M r c := rfl
      have S2 : swpR M k t r c = if r = k then M t c else if r = t then M k c else M r c := rfl
      rw [S]
      unfold upM
      rw [S2]
      by_cases a1 : r = k
      · subst a1
        rw [if_pos rfl, if_pos rfl]
        by_cases q : c < r
        · rw [if_pos ⟨q, q⟩, if_pos ⟨by omega, q⟩]
        · rw [if_neg (fun w => q w.2), if_neg (fun w => q w.2)]
      · rw [if_neg a1, if_neg a1]
        by_cases a2 : r = t
        · subst a2
          rw [if_pos rfl, if_pos rfl]
          by_cases q : c < k
          · rw [if_pos ⟨by omega, q⟩, if_pos ⟨q, q⟩]
          · rw [if_neg (fun w => q w.2), if_neg (fun w => q w.2)]
        · rw [if_neg a2, if_neg a2]
    rw [e, det_swp hk ht (by omega), h.det]
    unfold sgn
    cases odd <;> simp <;> grind
/-- column k is made nought below row k -/
def elim (M : Mat) (k : Nat) : Mat := fun i c => if i ≤ k ∨ c < k then M i c else if c = k then M i k / M k k else M i c - M k c * (M i k / M k k)
theorem LuI.step {n : Nat} {A : Mat} {k : Nat} {M : Mat} {ord : Nat → Nat} {odd : Bool} (h : LuI n A k M ord odd) (hk : k < n) (hp : M k k ≠ 0) : LuI n A (k + 1) (elim M k) ord odd where
  lt := h.lt
  inj := h.inj
  sur := h.sur
  eq i c hi hc := by
    have ue : ∀ j, j ≤ k → ut (elim M k) j c = ut M j c := fun j hj => by
      have : elim M k j c = M j c := by unfold elim; rw [if_pos (.inl hj)]
      unfold ut; rw [this]
    have se : ∀ m, m ≤ k → sumR (fun j => elim M k i j * ut (elim M k) j c) m = sumR (fun j => M i j * ut M j c) m := fun m hm => sumR_congr m fun j hj => by
      rw [ue j (by omega)]
      congr 1
      unfold elim; rw [if_pos (.inr (by omega))]
    rw [h.eq i c hi hc]
    rcases Nat.lt_trichotomy i k with q | q | q
    · rw [show min i k = i by omega, show min i (k + 1) = i by omega, se i (by omega), if_pos q, if_pos (show i < k + 1 by omega), ue i (by omega)]
    · subst q
      rw [show min i i = i by omega, show min i (i + 1) = i by omega, se i (Nat.le_refl _), if_neg (show ¬ i < i by omega), if_pos (show i < i + 1 by omega), ue i (Nat.le_refl _)]
      congr 1
      unfold ut
      by_cases w : c < i
      · rw [if_pos w, if_neg (by omega)]
      · rw [if_neg w, if_pos (by omega)]
    · rw [show min i k = k by omega, show min i (k + 1) = k + 1 by omega, if_neg (show ¬ i < k by omega), if_neg (show ¬ i < k + 1 by omega)]
      simp only [sumR]
      rw [se k (Nat.le_refl _), ue k (Nat.le_refl _)]
      have e1 : elim M k i k = M i k / M k k := by
        unfold elim; rw [if_neg (by omega), if_pos rfl]
      have hd : M i k / M k k * M k k = M i k := Rat.div_mul_cancel hp
      rw [e1]
      unfold ut
      rcases Nat.lt_trichotomy c k with w | w | w
      · rw [if_pos w, if_neg (by omega), if_pos (by omega)]; grind
      · subst w
        rw [if_neg (by omega), if_pos (by omega), if_pos (by omega), hd]; grind
      · rw [if_neg (by omega), if_pos (by omega), if_neg (by omega)]
        unfold elim
        rw [if_neg (by omega), if_neg (by omega)]; grind
  piv j hj := by
    unfold elim
    rw [if_pos (.inl (by omega))]
    by_cases e : j = k
    · rw [e]; exact hp
    · exact h.piv j (by omega)
  det := by
    rw [← h.det, ← det_adds (B := upM k M) hk (fun i => -(M i k / M k k)) n (Nat.le_refl _)]
    refine det_congr fun r c hr hc => ?_
    have hd : M r k / M k k * M k k = M r k := Rat.div_mul_cancel hp
    show upM (k + 1) (elim M k) r c = if k < r ∧ r < n then upM k M r c + -(M r k / M k k) * upM k M k c else upM k M r c
    by_cases q : k < r
    · rw [if_pos ⟨q, hr⟩]
      rcases Nat.lt_trichotomy c k with w | w | w
      · have L : upM (k + 1) (elim M k) r c = 0 := by unfold upM; rw [if_pos ⟨by omega, by omega⟩]
        have R1 : upM k M r c = 0 := by unfold upM; rw [if_pos ⟨by omega, w⟩]
        have R2 : upM k M k c = 0 := by unfold upM; rw [if_pos ⟨w, w⟩]
        rw [L, R1, R2]; grind
      · subst w
        have L : upM (c + 1) (elim M c) r c = 0 := by unfold upM; rw [if_pos ⟨q, by omega⟩]
        have R1 : upM c M r c = M r c := by unfold upM; rw [if_neg (by omega)]
        have R2 : upM c M c c = M c c := by unfold upM; rw [if_neg (by omega)]
        rw [L, R1, R2]; grind
      · have L : upM (k + 1) (elim M k) r c = M r c - M k c * (M r k / M k k) := by
          unfold upM; rw [if_neg (by omega)]
          unfold elim; rw [if_neg (by omega), if_neg (by omega)]
        have R1 : upM k M r c = M r c := by unfold upM; rw [if_neg (by omega)]
        have R2 : upM k M k c = M k c := by unfold upM; rw [if_neg (by omega)]
        rw [L, R1, R2]; grind
    · rw [if_neg (fun w => q w.1)]
      have E : elim M k r c = M r c := by unfold elim; rw [if_pos (.inl (by omega))]
      unfold upM
      rw [E]
      by_cases w : c < r
      · rw [if_pos ⟨w, by omega⟩, if_pos ⟨w, by omega⟩]
      · rw [if_neg (fun z => w z.1), if_neg (fun z => w z.1)]
/-- no row is left whose number in column k is not nought -/
theorem LuI.none {n : Nat} {A : Mat} {k : Nat} {M : Mat} {ord : Nat → Nat} {odd : Bool} (h : LuI n A k M ord odd) (hk : k < n) (hz : ∀ r, k ≤ r → r < n → M r k = 0) : Dt.det n A = 0 := by
  have e : Dt.det n (upM k M) = 0 := det_zero hk (fun r c _ hc hck => by unfold upM; rw [if_pos ⟨hc, hck⟩]) (fun r hr hr' => by
    unfold upM; rw [if_neg (fun w => by omega)]; exact hz r hr hr')
  have hd := h.det
  rw [e] at hd
  unfold sgn at hd
  cases odd <;> simp at hd <;> grind
theorem LuI.detE {n : Nat} {A : Mat} {M : Mat} {ord : Nat → Nat} {odd : Bool} (h : LuI n A n M ord odd) : Dt.det n A = sgn odd * prodD M n := by
  have e : Dt.det n (upM n M) = prodD (upM n M) n := det_tri fun r c hr hc => by unfold upM; rw [if_pos ⟨hc, by omega⟩]
  have p : ∀ k, prodD (upM n M) k = prodD M k := fun k => by
    induction k with
    | zero => rfl
    | succ k ih => simp only [prodD]; rw [ih]; unfold upM; rw [if_neg (by omega)]
  have hd := h.det
  rw [e, p] at hd
  unfold sgn at hd ⊢
  cases odd <;> simp at hd ⊢ <;> grind
theorem prodD_ne {M : Mat} : ∀ n, (∀ j, j < n → M j j ≠ 0) → prodD M n ≠ 0
  | 0, _ => by simp only [prodD]; decide
  | n + 1, h => by
    simp only [prodD]
    have h1 := prodD_ne n fun j hj => h j (by omega)
    have h2 := h n (by omega)
    intro e
    rcases Rat.mul_eq_zero.1 e with q | q
    · exact h1 q
    · exact h2 q
/-- what the two parts solve -/
theorem LuI.solve {n : Nat} {A : Mat} {M : Mat} {ord : Nat → Nat} {odd : Bool} (h : LuI n A n M ord odd) {b x y : Nat → Rat} (h1 : ∀ i, i < n → y i = b (ord i) - sumR (fun j => M i j * y j) i) (h2 : ∀ i, i < n → sumR (fun c => ut M i c * x c) n = y i) (r : Nat) (hr : r < n) : mulV n A x r = b r := by
  obtain ⟨i, hi, rfl⟩ := h.sur r hr
  have e : mulV n A x (ord i) = sumR (fun j => M i j * y j) i + y i := by
    unfold mulV
    rw [sumR_congr n (g := fun c => sumR (fun j => M i j * (ut M j c * x c)) i + ut M i c * x c) fun c hc => by
      rw [h.eq i c hi hc, show min i n = i by omega, if_pos hi, Rat.add_mul, ← sumR_mulr]
      congr 1
      exact sumR_congr i fun j _ => by grind]
    rw [sumR_add, h2 i hi, sumR_swap]
    congr 1
    refine sumR_congr i fun j hj => ?_
    rw [sumR_mul, h2 j (by omega)]
  rw [e, h1 i hi]; grind
/-- c A from the left, in column j -/
def mulL (n : Nat) (A : Mat) (x : Nat → Rat) (c : Nat) : Rat := sumR (fun r => x r * A r c) n
/-- a sum may be taken in the rows' other order -/
theorem sumR_perm {f : Nat → Rat} : ∀ {n : Nat} {ord : Nat → Nat}, (∀ i, i < n → ord i < n) → (∀ i j, i < n → j < n → ord i = ord j → i = j) → sumR (fun i => f (ord i)) n = sumR f n := fun {n} {ord} hl hi => by
  have a : sumR (fun i => sumR (fun r => if ord i = r then f r else 0) n) n = sumR (fun i => f (ord i)) n := sumR_congr n fun i h => by
    rw [sumR_one (p := ord i) n (hl i h) fun r _ hne => if_neg (fun q => hne q.symm), if_pos rfl]
  rw [← a, sumR_swap]
  have sur : ∀ r, r < n → ∃ i, i < n ∧ ord i = r := by
    have count : ∀ (m : Nat) (o : Nat → Nat), (∀ i, i < m → o i < m) → (∀ i j, i < m → j < m → o i = o j → i = j) → ∀ r, r < m → ∃ i, i < m ∧ o i = r := fun m => by
      induction m with
      | zero => intro _ _ _ r hr; omega
      | succ m ih =>
        intro o h1 h2 r hr
        by_cases e : o m = m
        · by_cases er : r = m
          · exact ⟨m, by omega, by rw [er]; exact e⟩
          · obtain ⟨i, hi, q⟩ := ih o (fun i hi => by
              have := h1 i (by omega)
              have : o i ≠ m := fun w => by have := h2 i m (by omega) (by omega) (by rw [w, e]); omega
              omega) (fun i j hi hj => h2 i j (by omega) (by omega)) r (by omega)
            exact ⟨i, by omega, q⟩
        · have hm := h1 m (by omega)
          obtain ⟨g1, g2⟩ : (∀ i, i < m → (if o i = m then o m else o i) < m) ∧ (∀ i j, i < m → j < m → (if o i = m then o m else o i) = (if o j = m then o m else o j) → i = j) := by
            refine ⟨fun i hi => ?_, fun i j hi hj w => ?_⟩
            · have := h1 i (by omega)
              split <;> omega
            · by_cases a1 : o i = m <;> by_cases a2 : o j = m
              · exact h2 i j (by omega) (by omega) (by omega)
              · rw [if_pos a1, if_neg a2] at w
                have := h2 m j (by omega) (by omega) w; omega
              · rw [if_neg a1, if_pos a2] at w
                have := h2 i m (by omega) (by omega) w; omega
              · rw [if_neg a1, if_neg a2] at w
                exact h2 i j (by omega) (by omega) w
          by_cases er : r = m
          · subst er
            refine Classical.byContradiction fun no => ?_
            have no' : ∀ i, i < r + 1 → o i ≠ r := fun i hi w => no ⟨i, hi, w⟩
            obtain ⟨i, hi, w⟩ := ih o (fun i hi => by have := h1 i (by omega); have := no' i (by omega); omega) (fun i j hi hj => h2 i j (by omega) (by omega)) (o r) (by have := no' r (by omega); omega)
            have := h2 i r (by omega) (by omega) w; omega
          · obtain ⟨i, hi, w⟩ := ih (fun i => if o i = m then o m else o i) g1 g2 r (by omega)
            by_cases a1 : o i = m
            · simp only [if_pos a1] at w
              exact ⟨m, by omega, w⟩
            · simp only [if_neg a1] at w
              exact ⟨i, by omega, w⟩
    exact count n ord hl hi
  refine sumR_congr n fun r hr => ?_
  obtain ⟨i, h, rfl⟩ := sur r hr
  rw [sumR_one (p := i) n h fun j hj hne => if_neg (fun q => hne (hi j i hj h q)), if_pos rfl]
/-- what stands behind i, up to n -/
def tl (f : Nat → Rat) (i n : Nat) : Rat := sumR (fun c => if i < c then f c else 0) n
theorem tl_zero (f : Nat → Rat) (i : Nat) : tl f i (i + 1) = 0 := sumR_zero _ fun c hc => if_neg (by omega)
theorem tl_succ {f : Nat → Rat} {i n : Nat} (h : i < n) : tl f i (n + 1) = tl f i n + f n := by
  unfold tl
  simp only [sumR]
  rw [if_pos h]
theorem ut_sum {M : Mat} {x : Nat → Rat} {i : Nat} : ∀ n, i < n → sumR (fun c => ut M i c * x c) n = M i i * x i + tl (fun c => M i c * x c) i n
  | n + 1, h => by
    simp only [sumR, tl]
    by_cases e : i = n
    · subst e
      rw [sumR_zero (f := fun c => ut M i c * x c) i fun c hc => by unfold ut; rw [if_neg (by omega)]; grind, sumR_zero (f := fun c => if i < c then M i c * x c else 0) i fun c hc => if_neg (by omega), if_neg (by omega)]
      unfold ut; rw [if_pos (Nat.le_refl _)]; grind
    · have := ut_sum (M := M) (x := x) n (show i < n by omega)
      unfold tl at this
      rw [this, if_pos (show i < n by omega)]
      unfold ut; rw [if_pos (show i ≤ n by omega)]; grind
theorem sumR_lt (f : Nat → Rat) {i n : Nat} (h : i ≤ n) : sumR (fun j => if j < i then f j else 0) n = sumR f i := by
  rw [sumR_cut n h fun j hj _ => if_neg (by omega)]
  exact sumR_congr i fun j hj => if_pos hj
/-- what the two parts solve from the left -/
theorem LuI.left {n : Nat} {A : Mat} {M : Mat} {ord : Nat → Nat} {odd : Bool} (h : LuI n A n M ord odd) {c w z y : Nat → Rat} (h1 : ∀ j, j < n → sumR (fun i => w i * ut M i j) n = c j) (h2 : ∀ j, j < n → z j + tl (fun i => z i * M i j) j n = w j) (h3 : ∀ i, i < n → y (ord i) = z i) (q : Nat) (hq : q < n) : mulL n A y q = c q := by
  unfold mulL
  rw [← sumR_perm h.lt h.inj, ← h1 q hq]
  rw [sumR_congr n (g := fun i => sumR (fun j => if j < i then z i * M i j * ut M j q else 0) n + z i * ut M i q) fun i hi => by
    have a1 : sumR (fun j => z i * M i j * ut M j q) i = z i * sumR (fun j => M i j * ut M j q) i := by
      rw [← sumR_mul]
      exact sumR_congr i fun j _ => by rw [Rat.mul_assoc]
    rw [h3 i hi, h.eq i q hi hq, show min i n = i by omega, if_pos hi, sumR_lt (fun j => z i * M i j * ut M j q) (by omega), a1, Rat.mul_add]]
  rw [sumR_add, sumR_swap, ← sumR_add]
  refine sumR_congr n fun j hj => ?_
  rw [← h2 j hj, Rat.add_mul]
  unfold tl
  rw [← sumR_mulr, Rat.add_comm]
  congr 1
  refine sumR_congr n fun i _ => ?_
  split
  · rfl
  · grind
/-- the tables are the same where they count -/
def Same (n : Nat) (A B : Mat) : Prop := ∀ r c, r < n → c < n → A r c = B r c
theorem Same.mulV {n : Nat} {A B : Mat} (h : Same n A B) (x : Nat → Rat) {r : Nat} (hr : r < n) : mulV n A x r = mulV n B x r := sumR_congr n fun c hc => by rw [h r c hr hc]
theorem Same.mulL {n : Nat} {A B : Mat} (h : Same n A B) (x : Nat → Rat) {c : Nat} (hc : c < n) : mulL n A x c = mulL n B x c := sumR_congr n fun r hr => by rw [h r c hr hc]
/-- A with A w in the place of a column -/
def etaM (n : Nat) (A : Mat) (at' : Nat) (w : Nat → Rat) : Mat := setC A at' (mulV n A w)
theorem eta_solve {n : Nat} {A : Mat} {at' : Nat} {w x x' : Nat → Rat} (ha : at' < n) (hw : w at' ≠ 0) (h1 : x' at' = x at' / w at') (h2 : ∀ i, i < n → i ≠ at' → x' i = x i - w i * (x at' / w at')) (r : Nat) : mulV n (etaM n A at' w) x' r = mulV n A x r := by
  have hd : x at' / w at' * w at' = x at' := Rat.div_mul_cancel hw
  have e : mulV n (etaM n A at' w) x' r = sumR (fun c => (A r c * x c - A r c * w c * (x at' / w at')) + (if c = at' then mulV n A w r * (x at' / w at') else 0)) n := by
    unfold mulV
    refine sumR_congr n fun c hc => ?_
    unfold etaM setC
    by_cases q : c = at'
    · subst q
      rw [if_pos rfl, if_pos rfl, h1]
      unfold mulV; grind
    · rw [if_neg q, if_neg q, h2 c hc q]; grind
  rw [e, sumR_add, sumR_sub, sumR_mulr, sumR_one (p := at') n ha fun c _ hne => if_neg hne, if_pos rfl]
  unfold mulV; grind
theorem eta_left {n : Nat} {A : Mat} {at' : Nat} {w z z' y : Nat → Rat} (ha : at' < n) (hw : w at' ≠ 0) (h1 : z' at' = (z at' - sumR (fun i => if i = at' then 0 else z i * w i) n) / w at') (h2 : ∀ i, i < n → i ≠ at' → z' i = z i) (hy : ∀ c, c < n → mulL n A y c = z' c) (c : Nat) (hc : c < n) : mulL n (etaM n A at' w) y c = z c := by
  by_cases q : c = at'
  · subst q
    have e : mulL n (etaM n A c w) y c = sumR (fun i => mulL n A y i * w i) n := by
      have : mulL n (etaM n A c w) y c = sumR (fun r => sumR (fun i => y r * (A r i * w i)) n) n := sumR_congr n fun r _ => by
        unfold etaM setC
        rw [if_pos rfl]
        unfold mulV
        rw [sumR_mul]
      rw [this, sumR_swap]
      refine sumR_congr n fun i _ => ?_
      unfold mulL
      rw [← sumR_mulr]
      exact sumR_congr n fun r _ => by grind
    have e2 : sumR (fun i => mulL n A y i * w i) n = sumR (fun i => (if i = c then 0 else z i * w i) + (if i = c then z' c * w c else 0)) n := sumR_congr n fun i hi => by
      rw [hy i hi]
      by_cases q : i = c
      · subst q; rw [if_pos rfl, if_pos rfl]; grind
      · rw [if_neg q, if_neg q, h2 i hi q]; grind
    have hd : z' c * w c = z c - sumR (fun i => if i = c then 0 else z i * w i) n := by
      rw [h1]; exact Rat.div_mul_cancel hw
    rw [e, e2, sumR_add, sumR_one (p := c) n hc fun i _ hne => if_neg hne, if_pos rfl, hd]; grind
  · have : mulL n (etaM n A at' w) y c = mulL n A y c := sumR_congr n fun r _ => by
      unfold etaM setC
      rw [if_neg q]
    rw [this, hy c hc, h2 c hc q]
theorem eta_det {n : Nat} {A : Mat} {at' : Nat} {w : Nat → Rat} (ha : at' < n) : det n (etaM n A at' w) = w at' * det n A := det_cramer A w ha
/-- columns that came later -/
def etas (n : Nat) : Mat → List (Nat × (Nat → Rat)) → Mat
  | A, [] => A
  | A, e :: r => etas n (etaM n A e.1 e.2) r
theorem etas_app (n : Nat) (e : Nat × (Nat → Rat)) : ∀ (l : List (Nat × (Nat → Rat))) (A : Mat), etas n A (l ++ [e]) = etaM n (etas n A l) e.1 e.2
  | [], _ => rfl
  | _ :: l, A => etas_app n e l _
/-- CRAMER, by rows -/
theorem det_cramerL {n : Nat} (A : Mat) (y : Nat → Rat) {p : Nat} (hp : p < n) : det n (setR A p (mulL n A y)) = y p * det n A := by
  have key : ∀ k, k ≤ n → det n (setR A p (mulL k A y)) = if p < k then y p * det n A else 0 := fun k => by
    induction k with
    | zero =>
      intro _
      rw [if_neg (by omega)]
      have h := det_row (n := n) (A := setR A p (mulL 0 A y)) (B := A) (C := A) (a := 0) (b := 0) (p := p) hp (fun r c hc => by simp only [setR, if_neg hc]) (fun r c hc => by simp only [setR, if_neg hc]) (fun r => by simp only [setR, if_true, mulL, sumR]; grind)
      rw [h]; grind
    | succ k ih =>
      intro hk
      have h := det_row (n := n) (A := setR A p (mulL (k + 1) A y)) (B := setR A p (mulL k A y)) (C := setR A p (A k)) (a := 1) (b := y k) (p := p) hp (fun r c hc => by simp only [setR, if_neg hc]) (fun r c hc => by simp only [setR, if_neg hc]) (fun r => by simp only [setR, if_true, mulL, sumR]; grind)
      rw [h, ih (by omega)]
      by_cases e : p = k
      · subst e
        have : setR A p (A p) = A := by
          funext r c
          simp only [setR]; split
          · rename_i e; rw [e]
          · rfl
        rw [this, if_neg (by omega), if_pos (by omega)]; grind
      · have : det n (setR A p (A k)) = 0 := det_eqr hp (q := k) (by omega) e fun r => by
          simp only [setR, if_true, if_neg (fun q : k = p => e q.symm)]
        rw [this]
        by_cases q : p < k
        · rw [if_pos q, if_pos (by omega)]; grind
        · rw [if_neg q, if_neg (by omega)]; grind
  have := key n (Nat.le_refl _)
  rwa [if_pos hp] at this
/-- what a table solves is said by determinants -/
theorem cramer_eq {n : Nat} {A : Mat} {b x : Nat → Rat} (h : ∀ r, r < n → mulV n A x r = b r) (hd : det n A ≠ 0) {p : Nat} (hp : p < n) : x p = det n (setC A p b) / det n A := by
  have e : det n (setC A p (mulV n A x)) = det n (setC A p b) := det_congr fun r c hr _ => by
    unfold setC; split
    · exact h r hr
    · rfl
  rw [← e, det_cramer A x hp]
  exact (Rat.mul_div_cancel hd).symm
theorem cramerL_eq {n : Nat} {A : Mat} {c y : Nat → Rat} (h : ∀ r, r < n → mulL n A y r = c r) (hd : det n A ≠ 0) {p : Nat} (hp : p < n) : y p = det n (setR A p c) / det n A := by
  have e : det n (setR A p (mulL n A y)) = det n (setR A p c) := det_congr fun r q _ hq => by
    unfold setR; split
    · exact h q hq
    · rfl
  rw [← e, det_cramerL A y hp]
  exact (Rat.mul_div_cancel hd).symm
end Go.Dt

