/- What Read makes of a number's own text. A text of the prover's own. -/
import Derived.Test.YtnimjdcaajmfcaaGreatDoorPQn
namespace Go.Proofs
open Go.Sv Go Go.Pl
theorem byt_sb {L : List Nat} {i : Nat} (h : i < L.length) (hL : ∀ d ∈ L, d < 256) : byt (sb L) i = dg L i := sb_get h hL
/-- decimal digits, the highest first -/
def dtx (L : List Nat) : ByteArray := sb (L.reverse.map (48 + ·))
theorem dtx_cons (d : Nat) (L : List Nat) : dtx (d :: L) = dtx L ++ sb [48 + d] := by
  unfold dtx; rw [sb_app]; simp
theorem dtx_size (L : List Nat) : (dtx L).size = L.length := by unfold dtx; simp
theorem dig_one_at {d : Nat} (h : d < 10) : ∀ i, i < (sb [48 + d]).size → digAt (sb [48 + d]) i := fun i hi => by
  have h0 : i = 0 := by simp at hi; omega
  subst h0
  refine ⟨hi, ?_⟩
  rw [byt_sb (by simp) (by simp; omega)]
  simp [dg, isDig]; omega
theorem dtx_dig : ∀ {L : List Nat}, (∀ d ∈ L, d < 10) → ∀ i, i < (dtx L).size → digAt (dtx L) i
  | [], _, i, hi => by simp [dtx_size] at hi
  | d :: L, h, i, hi => by
    rw [dtx_cons] at hi ⊢
    exact dig_app (dtx_dig fun x hx => h x (by simp [hx])) (dig_one_at (h d (by simp))) i hi
theorem dtx_nv : ∀ {L : List Nat}, (∀ d ∈ L, d < 10) → nv (dtx L) 0 (dtx L).size = val 10 L
  | [], _ => rfl
  | d :: L, h => by
    have hd := h d (by simp)
    rw [dtx_cons, nv_app, dtx_nv fun x hx => h x (by simp [hx])]
    have : nv (sb [48 + d]) 0 (sb [48 + d]).size = d := by
      rw [sb_size]
      simp only [List.length_singleton, nv]
      rw [byt_sb (by simp) (by simp; omega)]
      simp [dg]
    rw [this, sb_size]
    simp [val]
    omega
