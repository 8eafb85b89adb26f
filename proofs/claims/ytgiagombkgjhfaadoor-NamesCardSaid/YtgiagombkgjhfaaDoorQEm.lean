/- What plain.Code returns. A text of the prover's own. -/
import Derived.Test.YtgiagombkgjhfaaDoorQEl
namespace Go.Proofs
open Go.Sv Go Go.Pl Go.RowKit
def gs (i : Nat) : Nat := [0, 2, 3, 4, 5, 6, 7, 8, 9, 1].getD i 0
def gsL : List SV := [.sen sent 0, .sen sent 2, .sen sent 3, .sen sent 4, .sen sent 5, .sen sent 6, .sen sent 7, .sen sent 8, .sen sent 9, .sen sent 1]
theorem gs_at : ∀ i : Nat, i < 10 → lget gsL i = .sen sent (gs i)
  | 0, _ | 1, _ | 2, _ | 3, _ | 4, _ | 5, _ | 6, _ | 7, _ | 8, _ | 9, _ => rfl
  | n + 10, h => absurd h (by omega)
theorem gs_sens : ∀ i : Nat, i < 10 → sens.contains (gs i) = true
  | 0, _ | 1, _ | 2, _ | 3, _ | 4, _ | 5, _ | 6, _ | 7, _ | 8, _ | 9, _ => rfl
  | n + 10, h => absurd h (by omega)
theorem gs_err {c : Nat} (hc : c = 1 ∨ c = 2 ∨ c = 3) : ∀ i : Nat, i < 10 → (gErr c = gs i ↔ i + 1 = c)
  | 0, _ | 1, _ | 2, _ | 3, _ | 4, _ | 5, _ | 6, _ | 7, _ | 8, _ | 9, _ => by rcases hc with rfl | rfl | rfl <;> decide
  | n + 10, h => absurd h (by omega)
set_option maxRecDepth 20000 in
theorem codeF_ok {c a : Nat} (hc : c = 1 ∨ c = 2 ∨ c = 3) : PureE Tryd.prog 83 [errSV c a] (fun x => x = .tup [.val (.int .i64 c), .val (.int .i64 a)]) := by
  refine pureE_enter Tryd.func83 rfl (by simp) (fun C hC hX hE => ?_)
  have hc0 : ¬ c = 0 := by omega
  refine CodeJ.go ?_
  simp [errSV, hc0]
  have hlen : gsL.length = 10 := rfl
  refine CodeJ.loop (ι := Nat) (fun i => ⟨51, [(0, .ifc tFault (.rop (.agg [.val (.int .i64 a), .sen sent (gErr c)]) 0)), (4, .val (.int .i64 (if i < c then 0 else c : Nat))), (20, .view 0 0 10), (21, .val (.int .i64 10)), (22, .val (.int .i64 i))], [some ⟨1, gsL, false⟩]⟩)
    (fun i => i ≤ 10) (fun i => 10 - i) 0 ?_ ?_ ?_
  · exact Nat.zero_le _
  · have : 0 < c := by omega
    simp [leS, hC, gsL, this]
  · rintro i hi
    by_cases h : i < 10
    · have e1 := gs_at i h
      have e2 := gs_err hc i h
      have is := isF_ok (a := a) hc0 (gs_sens i h) (by rcases hc with rfl | rfl | rfl <;> decide)
      simp only [errSV, if_neg hc0, e2] at is
      have hI : (i : Int) < 10 := by omega
      simp (disch := omega) [hI, e1, hlen]
      refine ⟨h, callE is hE hX (by simp) (fun x hx => ?_)⟩
      subst hx
      by_cases hic : i + 1 = c
      · have h1 : i < c := by omega
        have h2 : ¬ i + 1 < c := by omega
        have h3 : ((i : Int) + 1) = (c : Int) := by omega
        simp (disch := omega) [hic, h1, w64]
        refine ⟨i + 1, by omega, by omega, ?_⟩
        simp [leS, hC, h2, h3]
      · have h4 : (if i + 1 < c then 0 else c) = (if i < c then 0 else c) := by
          by_cases h1 : i < c
          · rw [if_pos h1, if_pos (by omega)]
          · rw [if_neg h1, if_neg (by omega)]
        simp (disch := omega) [hic, w64]
        refine ⟨i + 1, by omega, by omega, ?_⟩
        simp [leS, hC, h4]
    · obtain rfl : i = 10 := by omega
      have hcn : ¬ 10 < c := by omega
      simp [hcn, hc0]
      have ha := fun K => asF_call (K := K) (a := a) hE hX hc0 (M := [some ⟨1, gsL, false⟩, some ⟨1, [.val (.pointer none)], false⟩]) (k := 1) rfl
      simp only [errSV, if_neg hc0] at ha
      refine ha _ ?_
      simp
      refine CodeJ.draw (.qs [0, 1, 2, 3, 4, 5, 6] <| .nil) (by kernel_rfl) (by kernel_rfl) (by simp) ?_
      simp
