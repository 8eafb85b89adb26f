/- What the program's functions of nets return: whether a plan shows that it is right. A text of the prover's own. -/
import Derived.Test.YtilpfpephcngbaaGreatDoorOBa
namespace Go.Proofs
open Go.Sv Go Go.Tb Go.Pl Go.Ut Go.Ne
set_option maxRecDepth 10000 in
theorem pArcs_ok (l : List ArcS) (h : SmA l) : PureF Tryz.prog 125 [.ro (l.map arcS)] (.tup [.ro (arcsQ l), .val (.bool (okA l))]) := by
  have hl := h.n
  refine pure_enter Tryz.func125 rfl (by simp) (fun C hC => ?_)
  simp
  refine CodeJ.nil 4 10 rfl ?_
  refine CodeJ.loopL (ι := Nat × List Arc) (fun ⟨i, xs⟩ => ⟨47, [(4, .view 0 0 xs.length), (11, .ro (l.map arcS)), (12, iv l.length), (13, iv i)], [some ⟨10, xs.map arcQ, false⟩]⟩)
    (fun ⟨i, xs⟩ => i ≤ l.length ∧ xs = (arcs l).take i ∧ ∀ k, k < i → (qrd 300 (gt l k).cap).2.1 = 0 ∧ (qrd 300 (gt l k).cost).2.1 = 0) (fun ⟨i, xs⟩ => l.length - i) (0, []) ?_ ?_ ?_
  · simp
  · simp [leS, hC]
  · rintro ⟨i, xs⟩ ⟨hi, hx, hk⟩
    have hxl : xs.length = i := by rw [hx]; simp; omega
    by_cases hlt : i < l.length
    · have hx' := arcs_take hlt
      rw [← hx] at hx'
      have s1 := h.cap i hlt
      have s2 := h.cost i hlt
      simp (disch := omega) [hlt, lget_arcS]
      repeat (refine And.intro (by omega) ?_)
      refine callS (pNumber_ok (gt l i).cap (by omega)) (by simp) ?_
      simp
      repeat (refine And.intro (by omega) ?_)
      refine callS (pNumber_ok (gt l i).cost (by omega)) (by simp) ?_
      by_cases hq : (qrd 300 (gt l i).cap).2.1 = 0
      · by_cases hq2 : (qrd 300 (gt l i).cost).2.1 = 0
        · simp (disch := omega) [hq, hq2, arcQ_mk, w64]
          repeat (refine And.intro (by omega) ?_)
          exact ⟨⟨by simp [hC], by omega⟩, i + 1, xs ++ [arcOf (gt l i)], ⟨by omega, hx'.symm, step_lt hk ⟨hq, hq2⟩⟩, by omega, Le.syn (by simp (disch := omega) [leS, hC, w64, arcOf])⟩
        · have := okA_false hlt (fun h => hq2 h.2)
          simp [hq, hq2, arcsQ, this]
      · have := okA_false hlt (fun h => hq h.1)
        simp [hq, arcsQ, this]
    · obtain rfl : i = l.length := by omega
      have := okA_true hk
      rw [List.take_of_length_le (by simp)] at hx
      simp [arcsQ, this, hx, List.take_of_length_le]
set_option maxRecDepth 10000 in
theorem qNetValid_ok (n : Int) (l : List Arc) (hl : l.length ≤ 1048576) : PureF Tryz.prog 186 [iv n, .ro (l.map arcQ)] (erV (netC n l)) := by
  refine pure_enter Tryz.func186 rfl (by simp) (fun C hC => ?_)
  simp
  by_cases h0 : n < 1 ∨ 60 < n ∨ 300 < l.length
  · rw [netC_2 h0, erV_2]
    exact ⟨fun c1 => ⟨fun c2 => ⟨fun _ => rfl, fun c3 => by omega⟩, fun _ => rfl⟩, fun _ => rfl⟩
  · refine ⟨fun c1 => ⟨fun c2 => ⟨fun c3 => by omega, fun c3 => ?_⟩, fun _ => by omega⟩, fun _ => by omega⟩
    refine CodeJ.loopL (ι := Nat) (fun i => ⟨53, [(0, iv n), (19, .ro (l.map arcQ)), (20, iv l.length), (21, iv i)], []⟩)
      (fun i => i ≤ l.length ∧ ∀ k, k < i → ¬ bad n (gt l k)) (fun i => l.length - i) 0 ?_ ?_ ?_
    · simp
    · simp [leS, hC]
    · rintro i ⟨hi, hk⟩
      by_cases hlt : i < l.length
      · have e4 := fun hb : bad n (gt l i) => netC_4 h0 hlt hb
        simp (disch := omega) [hlt, lget_arcQ]
        repeat (refine And.intro (by omega) ?_)
        by_cases hb : (gt l i).f < 0 ∨ n ≤ (gt l i).f ∨ (gt l i).t < 0 ∨ n ≤ (gt l i).t
        · rw [e4 (by unfold bad; grind), erV_4]
          repeat' (apply And.intro <;> intro _)
          all_goals first | rfl | (exfalso; omega)
        · have b1 : ¬ (gt l i).f < 0 := by omega
          have b2 : ¬ n ≤ (gt l i).f := by omega
          have b3 : ¬ (gt l i).t < 0 := by omega
          have b4 : ¬ n ≤ (gt l i).t := by omega
          have b1' : 0 ≤ (gt l i).f := by omega
          have b2' : (gt l i).f < n := by omega
          have b3' : 0 ≤ (gt l i).t := by omega
          have b4' : (gt l i).t < n := by omega
          simp [b1, b2, b3, b4, b1', b2', b3', b4']
          refine callS (sgnQ (gt l i).cap) (by simp) ?_
          simp (disch := omega) [w64]
          repeat (refine And.intro (by omega) ?_)
          refine ⟨fun h => ?_, fun h => ⟨i + 1, ⟨by omega, step_lt hk (by unfold bad; grind)⟩, by omega, Le.syn (by simp (disch := omega) [leS, hC, w64])⟩⟩
          rw [e4 (by unfold bad; grind), erV_4]
      · obtain rfl : i = l.length := by omega
        simp [netC_0 h0 hk, erV_0]
end Go.Proofs

