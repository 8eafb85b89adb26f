/- Numbers as lists of digits, the lowest first: plain lists and numbers, no program in sight. A text of the prover's own. -/
import Derived.Test.YtlkaaaoeemejoaaGreatDoorQNm
namespace Go.Pl

def val (B : Nat) : List Nat → Nat
  | [] => 0
  | d :: l => d + B * val B l
def trimL : List Nat → List Nat
  | [] => []
  | d :: l => match trimL l with
    | [] => if d = 0 then [] else [d]
    | e :: r => d :: e :: r
/-- the digits of a number -/
def digF (B : Nat) : Nat → Nat → List Nat
  | 0, _ => []
  | f + 1, n => if n = 0 then [] else n % B :: digF B f (n / B)
def dig (B n : Nat) : List Nat := digF B n n

theorem digF_eq {B : Nat} (hB : 2 ≤ B) : ∀ (f g n : Nat), n ≤ f → n ≤ g → digF B f n = digF B g n
  | 0, g, n, h, _ => by
    have : n = 0 := by omega
    subst this; cases g <;> simp [digF]
  | f + 1, 0, n, _, h => by
    have : n = 0 := by omega
    subst this; simp [digF]
  | f + 1, g + 1, n, h1, h2 => by
    simp only [digF]
    split
    · rfl
    · rename_i hn
      have := Nat.div_lt_self (Nat.pos_of_ne_zero hn) hB
      rw [digF_eq hB f g (n / B) (by omega) (by omega)]
theorem dig_zero (B : Nat) : dig B 0 = [] := rfl
theorem dig_pos {B n : Nat} (hB : 2 ≤ B) (hn : n ≠ 0) : dig B n = n % B :: dig B (n / B) := by
  obtain ⟨m, rfl⟩ : ∃ m, n = m + 1 := ⟨n - 1, by omega⟩
  have := Nat.div_lt_self (Nat.pos_of_ne_zero hn) hB
  simp only [dig, digF, hn, if_false]
  rw [digF_eq hB m ((m + 1) / B) _ (by omega) (Nat.le_refl _)]
theorem dig_eq_nil {B n : Nat} (hB : 2 ≤ B) : dig B n = [] ↔ n = 0 := by
  constructor
  · intro h
    by_cases hn : n = 0
    · exact hn
    · rw [dig_pos hB hn] at h; cases h
  · rintro rfl; rfl
theorem val_dig {B : Nat} (hB : 2 ≤ B) (n : Nat) : val B (dig B n) = n := by
  induction n using Nat.strongRecOn with
  | _ n ih =>
    by_cases hn : n = 0
    · subst hn; rfl
    · rw [dig_pos hB hn]
      simp only [val]
      rw [ih _ (Nat.div_lt_self (Nat.pos_of_ne_zero hn) hB)]
      exact Nat.mod_add_div n B
theorem dig_lt {B : Nat} (hB : 2 ≤ B) (n : Nat) : ∀ d ∈ dig B n, d < B := by
  induction n using Nat.strongRecOn with
  | _ n ih =>
    by_cases hn : n = 0
    · subst hn; simp [dig_zero]
    · rw [dig_pos hB hn]
      intro d hd
      rcases List.mem_cons.1 hd with rfl | hd
      · exact Nat.mod_lt _ (by omega)
      · exact ih _ (Nat.div_lt_self (Nat.pos_of_ne_zero hn) hB) d hd
/-- digits, trimmed, are the digits of their number -/
theorem dig_val {B : Nat} (hB : 2 ≤ B) : ∀ (l : List Nat), (∀ d ∈ l, d < B) → dig B (val B l) = trimL l
  | [], _ => rfl
  | d :: l, h => by
    have ih := dig_val hB l fun e he => h e (by simp [he])
    have hd := h d (by simp)
    simp only [val, trimL]
    by_cases hz : d + B * val B l = 0
    · have h1 : d = 0 := by omega
      have h2 : val B l = 0 := by
        have : B * val B l = 0 := by omega
        rcases Nat.mul_eq_zero.1 this with h | h <;> omega
      rw [h2, dig_zero] at ih
      rw [hz, ← ih]
      simp [h1, dig_zero]
    · rw [dig_pos hB hz]
      have h1 : (d + B * val B l) % B = d := by rw [Nat.add_mul_mod_self_left]; exact Nat.mod_eq_of_lt hd
      have h2 : (d + B * val B l) / B = val B l := by rw [Nat.add_mul_div_left _ _ (by omega)]; rw [Nat.div_eq_of_lt hd]; omega
      rw [h1, h2, ih]
      cases ht : trimL l with
      | nil =>
        have h3 : val B l = 0 := by rw [ht] at ih; exact (dig_eq_nil hB).1 ih
        rw [if_neg (by rw [h3] at hz; simpa using hz)]
      | cons e r => rfl
theorem trimL_dig {B : Nat} (hB : 2 ≤ B) (n : Nat) : trimL (dig B n) = dig B n := by
  rw [← dig_val hB _ (dig_lt hB n), val_dig hB]
theorem trimL_zero (l : List Nat) : trimL (l ++ [0]) = trimL l := by
  induction l with
  | nil => rfl
  | cons d l ih => simp [trimL, ih]
theorem trimL_snoc (l : List Nat) {d : Nat} (hd : d ≠ 0) : trimL (l ++ [d]) = l ++ [d] := by
  induction l with
  | nil => simp [trimL, hd]
  | cons e l ih =>
    simp only [List.cons_append, trimL, ih]
    cases l <;> simp
theorem trimL_le (l : List Nat) : (trimL l).length ≤ l.length := by
  induction l with
  | nil => simp [trimL]
  | cons d l ih =>
    simp only [trimL]
    split
    · split <;> simp
    · rename_i e r h; rw [h] at ih; simpa using ih
theorem trimL_lt {B : Nat} (l : List Nat) (h : ∀ d ∈ l, d < B) : ∀ d ∈ trimL l, d < B := by
  induction l with
  | nil => simp [trimL]
  | cons e l ih =>
    have ih := ih fun d hd => h d (by simp [hd])
    simp only [trimL]
    split
    · split
      · simp
      · intro d hd; simp at hd; subst hd; exact h d (by simp)
    · rename_i x r hx
      rw [hx] at ih
      intro d hd
      rcases List.mem_cons.1 hd with rfl | hd
      · exact h d (by simp)
      · exact ih d hd
theorem val_app (B : Nat) (l r : List Nat) : val B (l ++ r) = val B l + B ^ l.length * val B r := by
  induction l with
  | nil => simp [val]
  | cons d l ih => simp only [List.cons_append, val, ih, List.length_cons, Nat.pow_succ]; rw [Nat.mul_add, Nat.mul_comm (B ^ l.length) B, Nat.mul_assoc]; omega
theorem val_lt {B : Nat} (l : List Nat) (h : ∀ d ∈ l, d < B) : val B l < B ^ l.length := by
  induction l with
  | nil => simp [val]
  | cons d l ih =>
    have ih := ih fun e he => h e (by simp [he])
    have hd := h d (by simp)
    simp only [val, List.length_cons, Nat.pow_succ]
    calc d + B * val B l < B + B * val B l := by omega
      _ = B * (val B l + 1) := by rw [Nat.mul_add]; omega
      _ ≤ B * B ^ l.length := Nat.mul_le_mul_left _ ih
      _ = B ^ l.length * B := Nat.mul_comm _ _
theorem val_trim (B : Nat) (l : List Nat) : val B (trimL l) = val B l := by
  induction l with
  | nil => rfl
  | cons d l ih =>
    simp only [trimL]
    cases h : trimL l with
    | nil =>
      rw [h] at ih; simp only [val] at ih ⊢
      split
      · simp [val, ← ih]; omega
      · simp [val, ← ih]
    | cons e r => rw [h] at ih; simp only [val] at ih ⊢; rw [ih]
/-- how many digits -/
def wid (B n : Nat) : Nat := (dig B n).length
theorem wid_le {B n k : Nat} (hB : 2 ≤ B) (h : n < B ^ k) : wid B n ≤ k := by
  induction k generalizing n with
  | zero => simp at h; subst h; simp [wid, dig_zero]
  | succ k ih =>
    by_cases hn : n = 0
    · subst hn; simp [wid, dig_zero]
    · simp only [wid]; rw [dig_pos hB hn]
      simp only [List.length_cons]
      have : n / B < B ^ k := by rw [Nat.div_lt_iff_lt_mul (by omega)]; rwa [Nat.pow_succ] at h
      have := ih this
      simp only [wid] at this; omega
theorem lt_wid {B : Nat} (hB : 2 ≤ B) (n : Nat) : n < B ^ wid B n := by
  have := val_lt (dig B n) (dig_lt hB n)
  rwa [val_dig hB] at this
theorem wid_mono {B m n : Nat} (hB : 2 ≤ B) (h : m ≤ n) : wid B m ≤ wid B n := wid_le hB (Nat.lt_of_le_of_lt h (lt_wid hB n))
theorem wid_base {A B : Nat} (hA : 2 ≤ A) (h : A ≤ B) (n : Nat) : wid B n ≤ wid A n := wid_le (by omega) (Nat.lt_of_lt_of_le (lt_wid hA n) (Nat.pow_le_pow_left h _))
theorem wid_mul {B : Nat} (hB : 2 ≤ B) (m n : Nat) : wid B (m * n) ≤ wid B m + wid B n := by
  refine wid_le hB ?_
  rw [Nat.pow_add]
  exact Nat.mul_lt_mul'' (lt_wid hB m) (lt_wid hB n)
theorem wid_add {B : Nat} (hB : 2 ≤ B) (m n : Nat) : wid B (m + n) ≤ max (wid B m) (wid B n) + 1 := by
  refine wid_le hB ?_
  have h1 := Nat.lt_of_lt_of_le (lt_wid hB m) (Nat.pow_le_pow_right (by omega : 0 < B) (Nat.le_max_left (wid B m) (wid B n)))
  have h2 := Nat.lt_of_lt_of_le (lt_wid hB n) (Nat.pow_le_pow_right (by omega : 0 < B) (Nat.le_max_right (wid B m) (wid B n)))
  rw [Nat.pow_succ]
  have : B ^ max (wid B m) (wid B n) * 2 ≤ B ^ max (wid B m) (wid B n) * B := Nat.mul_le_mul_left _ hB
  omega
theorem cmp_top {B : Nat} {la lb r : List Nat} {x y : Nat} (hla : ∀ d ∈ la, d < B) (hl : la.length = lb.length) (h : x < y) : val B (la ++ x :: r) < val B (lb ++ y :: r) := by
  rw [val_app, val_app, hl]
  simp only [val]
  have h1 := val_lt la hla
  rw [hl] at h1
  have h2 : B ^ lb.length * (x + B * val B r) + B ^ lb.length ≤ B ^ lb.length * (y + B * val B r) := by
    rw [← Nat.mul_succ]; exact Nat.mul_le_mul_left _ (by omega)
  omega
theorem step_val (B : Nat) (out : List Nat) (x r : Nat) : val B (out ++ [x % B]) + B ^ (out.length + 1) * (x / B + r) = val B out + B ^ out.length * (x + B * r) := by
  have h := Nat.mod_add_div x B
  rw [val_app]
  conv => rhs; rw [← h]
  simp only [val, Nat.pow_succ, Nat.mul_add, Nat.mul_zero, Nat.add_zero, Nat.mul_assoc, Nat.add_assoc]
def cmp3 (m n : Nat) : Int := if m < n then -1 else if n < m then 1 else 0
theorem lt_of_wid {B m n : Nat} (hB : 2 ≤ B) (h : (dig B m).length < (dig B n).length) : m < n := by
  rcases Nat.lt_or_ge m n with h' | h'
  · exact h'
  · have := wid_mono hB h'; simp only [wid] at this; omega
end Go.Pl
