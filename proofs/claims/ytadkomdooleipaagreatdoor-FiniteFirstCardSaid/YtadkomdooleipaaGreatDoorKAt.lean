/- What a constraint lets stand: the document's ways of asking. A text of the prover's own. -/
import Derived.Test.YtadkomdooleipaaGreatDoorKAo
import Derived.Test.YtadkomdooleipaaGreatDoorKAg
namespace Go.Fn
open Go Go.Sv Go.Pl Go.Proofs Go.Tb Go.Ut
/-- lists of which may be asked -/
structure LOK (n : Nat) (L : Lf) : Prop where
  len : L.length = n
  n6 : n ≤ 6
  ne : NE L
  asc : AscL L
  l12 : ∀ k, k < n → (gt L k).length ≤ 12
  bd : ∀ k, k < n → ∀ v ∈ gt L k, Bd8 v
section
variable {n : Nat} {c : Con} {L : Lf}
theorem LOK.at (h : LOK n L) (hc : ConOK n c) {k : Nat} (hk : k < c.vars.length) : lget (L.map ilv) (gt c.vars k).toNat = ilv (lk c L k) ∧ (lk c L k).length ≤ 12 ∧ 0 < (lk c L k).length ∧ (gt c.vars k).toNat < L.length ∧ (0 ≤ gt c.vars k ∧ gt c.vars k < L.length) ∧ ∀ v ∈ lk c L k, Bd8 v := by
  have h1 := hc.va k hk
  have h2 := hc.at hk
  have hl := h.len
  exact ⟨lget_ilv (by omega), h.l12 _ h2, List.length_pos_iff.2 (h.ne _ (by omega)), by omega, by omega, h.bd _ h2⟩
theorem low_bd {l : List Int} (h : ∀ v ∈ l, Bd8 v) (hp : 0 < l.length) : Bd8 (low l) ∧ Bd8 (high l) := ⟨h _ (gt_mem hp), h _ (gt_mem (by omega))⟩
theorem useS_bd {m : Int} {i : Nat} (h : ∀ k, k < c.vars.length → 0 ≤ gt c.uses k ∧ gt c.uses k ≤ 100000000) : ∀ k, k ≤ c.vars.length → 0 ≤ useS c L i m k ∧ useS c L i m k ≤ 100000000 * k
  | 0, _ => by simp [useS, sumN]
  | k + 1, hk => by
    have := useS_bd (m := m) (i := i) h k (by omega)
    have := h k (by omega)
    simp only [useS, sumN] at *
    split <;> omega
end
end Go.Fn
namespace Go.Proofs
open Go.Sv Go Go.Tb Go.Pl Go.Ut Go.Fn
end Go.Proofs

