/- Texts of numbers: how a number is told; plain. A text of the prover's own. -/
import Derived.Test.YtgiagombkgjhfaaDoorRd
namespace Go.Pl
open Go.Sv Go
/-- the bytes of a number's text -/
def txtL (x : Int) : List Nat := if x = 0 then [48] else (if x < 0 then [45] else []) ++ (dig 10 x.natAbs).reverse.map (48 + ·)
/-- the text of a number -/
def txt (x : Int) : ByteArray := strOf ((txtL x).map u8)
theorem wid_ten (n : Nat) : wid 10 n ≤ 10 * wid 4294967296 n := by
  refine wid_le (by omega) ?_
  rw [Nat.pow_mul]
  exact Nat.lt_of_lt_of_le (lt_wid (by omega) n) (Nat.pow_le_pow_left (by omega) _)
theorem ext_dg {l l' : List Nat} (h : l.length = l'.length) (hd : ∀ i, i < l.length → dg l i = dg l' i) : l = l' := by
  refine List.ext_getElem h fun i h1 h2 => ?_
  have := hd i h1
  unfold dg at this
  rwa [getD_in h1, getD_in h2] at this
theorem dg_rev {l : List Nat} {i : Nat} (h : i < l.length) : dg l.reverse i = dg l (l.length - 1 - i) := by
  unfold dg
  rw [getD_in (by simpa using h), getD_in (by omega), List.getElem_reverse]
/-- one digit more -/
theorem dig_step {N : Nat} (h : 0 < N) : dig 10 N = N % 10 :: dig 10 (N / 10) := dig_pos (by omega) (by omega)
theorem ten_step {r k n : Nat} (hk : k < 9) : (r + 10 ^ (9 - k) * n) % 10 = r % 10 ∧ (r + 10 ^ (9 - k) * n) / 10 = r / 10 + 10 ^ (9 - (k + 1)) * n := by
  have e : 10 ^ (9 - k) * n = 10 * (10 ^ (9 - (k + 1)) * n) := by
    rw [show 9 - k = (9 - (k + 1)) + 1 by omega, Nat.pow_succ]; grind
  rw [e]
  omega
/-- half way of turning a list round -/
def halfRev (l b : List Nat) (i : Nat) : Prop := b.length = l.length ∧ ∀ k, k < l.length → dg b k = if k < i ∨ l.length - 1 - k < i then dg l (l.length - 1 - k) else dg l k
theorem halfRev_zero (l : List Nat) : halfRev l l 0 := ⟨rfl, fun k _ => by simp⟩
theorem halfRev_step {l b : List Nat} {i : Nat} (h : halfRev l b i) (hi : i < l.length - 1 - i) : halfRev l ((b.set i (dg b (l.length - 1 - i))).set (l.length - 1 - i) (dg b i)) (i + 1) := by
  obtain ⟨h1, h2⟩ := h
  refine ⟨by simpa using h1, fun k hk => ?_⟩
  rw [dg_set _ (by simp; omega), dg_set _ (by omega)]
  by_cases e1 : l.length - 1 - i = k
  · rw [if_pos e1, if_pos (by omega), h2 i (by omega), if_neg (by omega)]
    congr 1; omega
  · rw [if_neg e1]
    by_cases e2 : i = k
    · rw [if_pos e2, if_pos (by omega), h2 _ (by omega), if_neg (by omega), e2]
    · rw [if_neg e2, h2 k hk]
      by_cases e3 : k < i ∨ l.length - 1 - k < i
      · rw [if_pos e3, if_pos (by omega)]
      · rw [if_neg e3, if_neg (by omega)]
theorem halfRev_end {l b : List Nat} {i : Nat} (h : halfRev l b i) (hi : l.length ≤ 2 * i + 1) : b = l.reverse := by
  obtain ⟨h1, h2⟩ := h
  refine ext_dg (by simpa using h1) fun k hk => ?_
  rw [h1] at hk
  rw [dg_rev hk, h2 k hk]
  by_cases e : k < i ∨ l.length - 1 - k < i
  · rw [if_pos e]
  · rw [if_neg e]; congr 1; omega
end Go.Pl
