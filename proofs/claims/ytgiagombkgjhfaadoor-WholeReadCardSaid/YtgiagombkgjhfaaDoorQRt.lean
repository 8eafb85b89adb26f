/- What Read makes of a number's own text. A text of the prover's own. -/
import Derived.Test.YtgiagombkgjhfaaDoorQQn
namespace Go.Proofs
open Go.Sv Go Go.Pl
theorem byt_sb {L : List Nat} {i : Nat} (h : i < L.length) (hL : ∀ d ∈ L, d < 256) : byt (sb L) i = dg L i := sb_get h hL
/-- decimal digits, the highest first -/
def dtx (L : List Nat) : ByteArray := sb (L.reverse.map (48 + ·))
theorem dtx_cons (d : Nat) (L : List Nat) : dtx (d :: L) = dtx L ++ sb [48 + d] := by
  unfold dtx; rw [sb_app]; simp
theorem dtx_size (L : List Nat) : (dtx L).size = L.length := by unfold dtx; simp
theorem dig_one_at {d : Nat} (h : d < 10) : ∀ i, i < (sb [48 + d]).size → digAt (sb [48 + d]) i := fun i hi => by
  have h0 : i = 0 := by simp at hi; omega
  subst h0
  refine ⟨hi, ?_⟩
  rw [byt_sb (by simp) (by simp; omega)]
  simp [dg, isDig]; omega
theorem dtx_dig : ∀ {L : List Nat}, (∀ d ∈ L, d < 10) → ∀ i, i < (dtx L).size → digAt (dtx L) i
  | [], _, i, hi => by simp [dtx_size] at hi
  | d :: L, h, i, hi => by
    rw [dtx_cons] at hi ⊢
    exact dig_app (dtx_dig fun x hx => h x (by simp [hx])) (dig_one_at (h d (by simp))) i hi
theorem dtx_nv : ∀ {L : List Nat}, (∀ d ∈ L, d < 10) → nv (dtx L) 0 (dtx L).size = val 10 L
  | [], _ => rfl
  | d :: L, h => by
    have hd := h d (by simp)
    rw [dtx_cons, nv_app, dtx_nv fun x hx => h x (by simp [hx])]
    have : nv (sb [48 + d]) 0 (sb [48 + d]).size = d := by
      rw [sb_size]
      simp only [List.length_singleton, nv]
      rw [byt_sb (by simp) (by simp; omega)]
      simp [dg]
    rw [this, sb_size]
    simp [val]
    omega
theorem rd_plain {D : ByteArray} {n : Nat} (hD : ∀ i, i < D.size → digAt D i) (hn : nv D 0 D.size = n) (h0 : 0 < D.size) (h1 : D.size ≤ 300) : rd D = ((n : Int), 0, 0) := by
  rw [rd_digits hD h0 h1, hn]
theorem rd_minus {D : ByteArray} {n : Nat} (hD : ∀ i, i < D.size → digAt D i) (hn : nv D 0 D.size = n) (h0 : 0 < D.size) (h1 : D.size ≤ 300) : rd (sb [45] ++ D) = (-(n : Int), 0, 0) := by
  have hz : (sb [45] ++ D).size = 1 + D.size := by rw [size_app, sb_size]; rfl
  have hm : minus (sb [45] ++ D) := by
    refine ⟨by omega, ?_⟩
    unfold byt; rw [sget_app, if_pos (by simp)]; rfl
  have ha : sgnAt (sb [45] ++ D) = 1 := by unfold sgnAt; rw [if_pos hm]
  have hd : ∀ i, 1 ≤ i → i < 1 + D.size → digAt (sb [45] ++ D) i := fun i i1 i2 => by
    refine ⟨by omega, ?_⟩
    unfold byt
    rw [sget_app, if_neg (by simp; omega)]
    exact (hD (i - (sb [45]).size) (by simp; omega)).2
  have he : dend (sb [45] ++ D) 1 = 1 + D.size := dend_eq (by omega) hd (fun h => by have := h.1; omega)
  have hv : nv (sb [45] ++ D) 1 (1 + D.size - 1) = n := by
    rw [show 1 + D.size - 1 = D.size by omega, show (1 : Nat) = (sb [45]).size from rfl, nv_app2, hn]
  unfold rd
  rw [ha, he, hz, if_neg (by omega), if_neg (by omega), if_pos hm, hv]
theorem rd_txt {x : Int} (h : wid 10 x.natAbs ≤ 300) : rd (txt x) = (x, 0, 0) := by
  have e : txt x = sb (txtL x) := rfl
  rw [e]
  unfold txtL
  by_cases h0 : x = 0
  · subst h0
    rw [if_pos rfl]
    exact rd_plain (n := 0) (dig_one_at (d := 0) (by omega)) rfl (by simp) (by simp)
  · rw [if_neg h0]
    have hl := dig_lt (B := 10) (by omega) x.natAbs
    have hv := val_dig (B := 10) (by omega) x.natAbs
    have hne : 0 < (dig 10 x.natAbs).length := by
      rw [List.length_pos_iff]; intro hn; rw [dig_eq_nil (by omega)] at hn; omega
    by_cases h1 : x < 0
    · rw [if_pos h1, ← sb_app]
      have := rd_minus (D := dtx (dig 10 x.natAbs)) (n := x.natAbs) (dtx_dig hl) (by rw [dtx_nv hl, hv]) (by rw [dtx_size]; exact hne) (by rw [dtx_size]; exact h)
      rw [show (-(x.natAbs : Int)) = x by omega] at this
      exact this
    · rw [if_neg h1, List.nil_append]
      have := rd_plain (D := dtx (dig 10 x.natAbs)) (n := x.natAbs) (dtx_dig hl) (by rw [dtx_nv hl, hv]) (by rw [dtx_size]; exact hne) (by rw [dtx_size]; exact h)
      rw [show (x.natAbs : Int) = x by omega] at this
      exact this
theorem rd_code (s : ByteArray) : ((rd s).2.1 = 0 ∨ (rd s).2.1 = 1 ∨ (rd s).2.1 = 2 ∨ (rd s).2.1 = 3) ∧ ((rd s).2.1 ≠ 0 → (rd s).1 = 0) := by
  unfold rd
  repeat' split
  all_goals simp
