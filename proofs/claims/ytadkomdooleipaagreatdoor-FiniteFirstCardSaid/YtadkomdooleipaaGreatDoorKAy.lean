/- What is left of all lists: the document's way. What is left of all lists: the document's way, whole. What is left of all lists: the document's way, whole. A text of the prover's own. -/
import Derived.Test.YtadkomdooleipaaGreatDoorKAx
import Derived.Test.YtadkomdooleipaaGreatDoorKAu
namespace Go.Fn
open Go Go.Sv Go.Pl Go.Proofs Go.Tb Go.Ut
theorem minmax_bd {a l h : Int} (ha : Bd8 a) (hl : Bd8 l) (hh : Bd8 h) : (-10000000000000000 ≤ a * l ∧ a * l ≤ 10000000000000000) ∧ (-10000000000000000 ≤ a * h ∧ a * h ≤ 10000000000000000) := ⟨mul_bd ha hl, mul_bd ha hh⟩
theorem lowS_bd {c : Con} {L : Lf} {i n : Nat} (h : ∀ k, k < n → Bd8 (gt c.nums k) ∧ Bd8 (low (lk c L k)) ∧ Bd8 (high (lk c L k))) : ∀ k, k ≤ n → (-(10000000000000000 * (k : Int)) ≤ lowS c L i k ∧ lowS c L i k ≤ 10000000000000000 * k) ∧ (-(10000000000000000 * (k : Int)) ≤ highS c L i k ∧ highS c L i k ≤ 10000000000000000 * k)
  | 0, _ => by simp [lowS, highS, sumN]
  | k + 1, hk => by
    have := lowS_bd (i := i) h k (by omega)
    have := minmax_bd (h k (by omega)).1 (h k (by omega)).2.1 (h k (by omega)).2.2
    simp only [lowS, highS, sumN] at *
    split <;> omega
theorem left_lok {p : Puz} (hp : PuzOK p) {L : Lf} (h : Left p p.values L) (ne : NE L) : LOK p.values.length L where
  len := h.len
  n6 := hp.few.v
  ne := ne
  asc := h.asc hp.asc
  l12 := fun k hk => Nat.le_trans (h.sub k hk).length_le (hp.few.l _ (gt_mem hk))
  bd := fun k hk v hv => hp.val k hk v ((h.sub k hk).subset hv)
end Go.Fn
namespace Go.Proofs
open Go.Sv Go Go.Tb Go.Pl Go.Ut Go.Fn
end Go.Proofs
namespace Go.Fn
open Go Go.Sv Go.Pl Go.Proofs Go.Tb Go.Ut
theorem lset_ilv (L : Lf) (k : Nat) (l : List Int) : lset (L.map ilv) k (.ro (l.map iv)) = (L.set k l).map ilv := by
  rw [lset_eq, List.map_set]; rfl
end Go.Fn
namespace Go.Proofs
open Go.Sv Go Go.Tb Go.Pl Go.Ut Go.Fn
end Go.Proofs
namespace Go.Proofs
open Go.Sv Go Go.Tb Go.Pl Go.Ut Go.Fn
end Go.Proofs

