/- Texts of numbers: what a text says; plain. A text of the prover's own. -/
import Derived.Test.YtgiagombkgjhfaaDoorKn
namespace Go.Pl
open Go.Sv Go
def byt (s : ByteArray) (i : Nat) : Nat := (sget s i).toNat
theorem byt_lt (s : ByteArray) (i : Nat) : byt s i < 256 := (sget s i).toNat_lt
def isDig (c : Nat) : Prop := 48 ≤ c ∧ c ≤ 57
instance (c : Nat) : Decidable (isDig c) := inferInstanceAs (Decidable (_ ∧ _))
/-- a digit at that place -/
def digAt (s : ByteArray) (i : Nat) : Prop := i < s.size ∧ isDig (byt s i)
instance (s : ByteArray) (i : Nat) : Decidable (digAt s i) := inferInstanceAs (Decidable (_ ∧ _))
def dspan (s : ByteArray) : Nat → Nat → Nat
  | 0, a => a
  | f + 1, a => if digAt s a then dspan s f (a + 1) else a
/-- where a row of digits ends -/
def dend (s : ByteArray) (a : Nat) : Nat := dspan s (s.size - a) a
theorem dspan_spec (s : ByteArray) : ∀ (f a : Nat), s.size ≤ a + f → a ≤ dspan s f a ∧ (∀ i, a ≤ i → i < dspan s f a → digAt s i) ∧ ¬ digAt s (dspan s f a)
  | 0, a, h => ⟨Nat.le_refl _, fun i h1 h2 => by simp only [dspan] at h2; omega, fun h' => by simp only [dspan] at h'; have := h'.1; omega⟩
  | f + 1, a, h => by
    simp only [dspan]
    split
    · rename_i hd
      obtain ⟨h1, h2, h3⟩ := dspan_spec s f (a + 1) (by omega)
      refine ⟨by omega, fun i hi1 hi2 => ?_, h3⟩
      by_cases e : i = a
      · subst e; exact hd
      · exact h2 i (by omega) hi2
    · rename_i hd
      exact ⟨Nat.le_refl _, fun i h1 h2 => by omega, hd⟩
theorem dend_ge (s : ByteArray) (a : Nat) : a ≤ dend s a := (dspan_spec s _ a (by omega)).1
theorem dend_dig {s : ByteArray} {a i : Nat} (h : a ≤ i) (h' : i < dend s a) : digAt s i := (dspan_spec s _ a (by omega)).2.1 i h h'
theorem dend_not (s : ByteArray) (a : Nat) : ¬ digAt s (dend s a) := (dspan_spec s _ a (by omega)).2.2
theorem dend_eq {s : ByteArray} {a e : Nat} (h : a ≤ e) (hd : ∀ i, a ≤ i → i < e → digAt s i) (hn : ¬ digAt s e) : dend s a = e := by
  have h1 := dend_ge s a
  rcases Nat.lt_trichotomy (dend s a) e with h2 | h2 | h2
  · exact absurd (hd _ h1 h2) (dend_not s a)
  · exact h2
  · exact absurd (dend_dig h h2) hn
theorem dend_gt {s : ByteArray} {a e : Nat} (h : a ≤ e) (hd : ∀ i, a ≤ i → i ≤ e → digAt s i) : e < dend s a := by
  rcases Nat.lt_or_ge e (dend s a) with h2 | h2
  · exact h2
  · exact absurd (hd _ (dend_ge s a) h2) (dend_not s a)
theorem dend_le {s : ByteArray} {a : Nat} (h : a ≤ s.size) : dend s a ≤ s.size := by
  rcases Nat.lt_or_ge s.size (dend s a) with h2 | h2
  · have := (dend_dig h h2).1; omega
  · exact h2
/-- the number of k digits from a on -/
def nv (s : ByteArray) (a : Nat) : Nat → Nat
  | 0 => 0
  | k + 1 => nv s a k * 10 + (byt s (a + k) - 48)
theorem nv_lt {s : ByteArray} {a : Nat} : ∀ {k : Nat}, (∀ i, a ≤ i → i < a + k → digAt s i) → nv s a k < 10 ^ k
  | 0, _ => by simp [nv]
  | k + 1, h => by
    have ih := nv_lt (k := k) fun i h1 h2 => h i h1 (by omega)
    have := (h (a + k) (by omega) (by omega)).2
    unfold isDig at this
    simp only [nv, Nat.pow_succ]
    omega
def minus (s : ByteArray) : Prop := 0 < s.size ∧ byt s 0 = 45
instance (s : ByteArray) : Decidable (minus s) := inferInstanceAs (Decidable (_ ∧ _))
def sgnAt (s : ByteArray) : Nat := if minus s then 1 else 0
theorem sgnAt_le (s : ByteArray) : sgnAt s ≤ s.size := by
  unfold sgnAt
  by_cases h : minus s
  · rw [if_pos h]; exact h.1
  · rw [if_neg h]; omega
/-- what a text says: a number; a fault's kind (0: none), and where -/
def rd (s : ByteArray) : Int × Nat × Nat :=
  if sgnAt s + 300 < dend s (sgnAt s) then (0, 2, sgnAt s + 300)
  else if dend s (sgnAt s) = sgnAt s ∨ dend s (sgnAt s) < s.size then (0, 1, dend s (sgnAt s))
  else ((if minus s then -(nv s (sgnAt s) (s.size - sgnAt s) : Int) else (nv s (sgnAt s) (s.size - sgnAt s) : Int)), 0, 0)
theorem rd_ok {s : ByteArray} (h : (rd s).2.1 = 0) : dend s (sgnAt s) = s.size ∧ sgnAt s < s.size ∧ s.size ≤ sgnAt s + 300 ∧ (rd s).1 = if minus s then -(nv s (sgnAt s) (s.size - sgnAt s) : Int) else (nv s (sgnAt s) (s.size - sgnAt s) : Int) := by
  unfold rd at h ⊢
  split at h
  · cases h
  · split at h
    · cases h
    · rename_i h1 h2
      have h3 := dend_le (sgnAt_le s)
      have h4 := dend_ge s (sgnAt s)
      rw [if_neg h1, if_neg h2]
      exact ⟨by omega, by omega, by omega, rfl⟩
theorem rd_abs (s : ByteArray) : wid 10 (rd s).1.natAbs ≤ 300 := by
  by_cases h : (rd s).2.1 = 0
  · obtain ⟨h1, h2, h3, h4⟩ := rd_ok h
    have := nv_lt (s := s) (a := sgnAt s) (k := s.size - sgnAt s) fun i hi1 hi2 => dend_dig hi1 (by omega)
    have h5 : (rd s).1.natAbs = nv s (sgnAt s) (s.size - sgnAt s) := by rw [h4]; split <;> simp
    rw [h5]
    exact Nat.le_trans (wid_le (by omega) this) (by omega)
  · have : (rd s).1 = 0 := by
      unfold rd at h ⊢
      split
      · rfl
      · split
        · rfl
        · rename_i h1 h2; simp [h1, h2] at h
    rw [this]; simp [wid, dig_zero]
end Go.Pl
