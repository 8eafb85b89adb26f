/- What the document's functions of nets return. A text of the prover's own. -/
import Derived.Test.YtilpfpephcngbaaGreatDoorOBa
namespace Go.Proofs
open Go.Sv Go Go.Tb Go.Pl Go.Ut Go.Ne
set_option maxRecDepth 10000 in
theorem rArcs_ok (l : List ArcS) (h : SmA l) : PureF Tryz.prog 123 [.ro (l.map arcS)] (.tup [.ro (arcsP l), .val (.bool (okA l))]) := by
  have hl := h.n
  refine pure_enter Tryz.func123 rfl (by simp) (fun C hC => ?_)
  simp
  refine CodeJ.nil 4 10 rfl ?_
  refine CodeJ.loopL (ι := Nat × List Arc) (fun ⟨i, xs⟩ => ⟨59, [(0, .ro (l.map arcS)), (4, .view 0 0 xs.length), (5, .val (.int .i64 i))], [some ⟨10, xs.map arcP, false⟩]⟩)
    (fun ⟨i, xs⟩ => i ≤ l.length ∧ xs = (arcs l).take i ∧ ∀ k, k < i → (qrd 300 (gt l k).cap).2.1 = 0 ∧ (qrd 300 (gt l k).cost).2.1 = 0) (fun ⟨i, xs⟩ => l.length - i) (0, []) ?_ ?_ ?_
  · simp
  · simp [leS, hC]
  · rintro ⟨i, xs⟩ ⟨hi, hx, hk⟩
    have hxl : xs.length = i := by rw [hx]; simp; omega
    by_cases hlt : i < l.length
    · have hx' := arcs_take hlt
      rw [← hx] at hx'
      have s1 := h.cap i hlt
      have s2 := h.cost i hlt
      have g1 := pQRead_ok (gt l i).cap (by omega)
      have g2 := pQRead_ok (gt l i).cost (by omega)
      simp (disch := omega) [hlt, lget_arcS]
      repeat (refine And.intro (by omega) ?_)
      by_cases hq : (qrd 300 (gt l i).cap).2.1 = 0
      · refine callS (pnum_ok (gt l i).cap (by omega) hq) (by simp) ?_
        simp (disch := omega) [hlt, lget_arcS, fsv]
        repeat (refine And.intro (by omega) ?_)
        by_cases hq2 : (qrd 300 (gt l i).cost).2.1 = 0
        · refine callS (pnum_ok (gt l i).cost (by omega) hq2) (by simp) ?_
          simp (disch := omega) [fsv]
          repeat (refine And.intro (by omega) ?_)
          refine CodeJ.draw (.qs [0, 1, 2, 3, 4, 5, 6, 7, 8, 9, 10, 11, 12, 13] <| .l 14 [] <| .l 15 [1000000] <| .qs [16] <| .nil) (by kernel_rfl) (by kernel_rfl) (by simp) ?_
          simp (disch := omega) [hlt, lget_arcS, w64, arcP_mk]
          repeat (refine And.intro (by omega) ?_)
          exact ⟨⟨by simp [hC], by omega⟩, i + 1, xs ++ [arcOf (gt l i)], ⟨by omega, hx'.symm, step_lt hk ⟨hq, hq2⟩⟩, by omega, Le.syn (by simp (disch := omega) [leS, hC, w64, arcOf])⟩
        · refine callS (g2) (by simp) ?_
          have := okA_false hlt (fun h => hq2 h.2)
          simp [outP, hq2, fsv, arcsP, this]
      · refine callS (g1) (by simp) ?_
        simp (disch := omega) [hlt, lget_arcS, outP, hq, fsv]
        repeat (refine And.intro (by omega) ?_)
        have := okA_false hlt (fun h => hq h.1)
        refine callS (g2) (by simp) ?_
        by_cases hq2 : (qrd 300 (gt l i).cost).2.1 = 0
        · simp [outP, hq2, hq, fsv, arcsP, this]
        · simp [outP, hq2, hq, fsv, arcsP, this]
    · obtain rfl : i = l.length := by omega
      have := okA_true hk
      rw [List.take_of_length_le (by simp)] at hx
      simp [arcsP, this, hx, List.take_of_length_le]
set_option maxRecDepth 10000 in
theorem rNetValid_ok (n : Int) (l : List Arc) (hl : l.length ≤ 1048576) : PureF Tryz.prog 127 [iv n, .ro (l.map arcP)] (iv (netC n l : Nat)) := by
  refine pure_enter Tryz.func127 rfl (by simp) (fun C hC => ?_)
  simp
  by_cases h0 : n < 1 ∨ 60 < n ∨ 300 < l.length
  · rw [netC_2 h0]
    exact ⟨fun c1 => ⟨fun c2 => ⟨fun _ => rfl, fun c3 => by omega⟩, fun _ => rfl⟩, fun _ => rfl⟩
  · refine ⟨fun c1 => ⟨fun c2 => ⟨fun c3 => by omega, fun c3 => ?_⟩, fun _ => by omega⟩, fun _ => by omega⟩
    refine CodeJ.loopL (ι := Nat) (fun i => ⟨66, [(0, iv n), (1, .ro (l.map arcP)), (5, iv i)], []⟩)
      (fun i => i ≤ l.length ∧ ∀ k, k < i → ¬ bad n (gt l k)) (fun i => l.length - i) 0 ?_ ?_ ?_
    · simp
    · simp [leS, hC]
    · rintro i ⟨hi, hk⟩
      by_cases hlt : i < l.length
      · simp (disch := omega) [hlt, lget_arcP]
        repeat (refine And.intro (by omega) ?_)
        refine callS (sgnP (gt l i).cap) (by simp) ?_
        simp (disch := omega) [hlt, lget_arcP]
        repeat (refine And.intro (by omega) ?_)
        repeat' (apply And.intro <;> intro _)
        all_goals first | (rw [netC_4 h0 hlt (by unfold bad; grind)]; rfl) | exact ⟨i + 1, ⟨by omega, step_lt hk (by unfold bad; grind)⟩, by omega, Le.syn (by simp (disch := omega) [leS, hC, w64])⟩
      · obtain rfl : i = l.length := by omega
        simp [netC_0 h0 hk]
theorem rThrough_ok (n : Nat) (l : List Arc) (hn : Net n l) (hw : ArcW l) (side : List Bool) (hs : side.length = n) : PureF Tryz.prog 191 [.ro (l.map arcP), .ro (side.map bov)] (qsv (thr l side l.length)) := by
  have hl := hw.n
  refine pure_enter Tryz.func191 rfl (by simp) (fun C hC => ?_)
  simp
  refine callS (zeroP) (by simp) ?_
  simp
  refine CodeJ.loopL (ι := Nat) (fun i => ⟨41, [(0, .ro (l.map arcP)), (1, .ro (side.map bov)), (4, .ptr 0 0 0), (5, .ptr 1 0 0), (6, iv i)], [some ⟨4, [.agg [.val (.bool false), .val (.slice none 0 0), .val (.bool false), .val (.slice none 0 0)]], false⟩, some ⟨4, [qsv (thr l side i)], false⟩]⟩)
    (fun i => i ≤ l.length) (fun i => l.length - i) 0 ?_ ?_ ?_
  · simp
  · simp [leS, hC, thr]
  · rintro i hi
    by_cases hlt : i < l.length
    · obtain ⟨f, t, ef, et, hf, ht⟩ := hn.a i hlt
      have q1 := qw_thr hw side i hi
      have q2 := hw.cap i hlt
      have n2 := hn.n2
      have m := hn.m
      have ov : over l side i = (gt side f && !gt side t) := by simp [over, ef, et]
      cases b1 : gt side f with
      | false =>
        have e : thr l side (i + 1) = thr l side i := by simp [thr, ov, b1]
        simp (disch := omega) [hlt, lget_arcP, lget_bov, ef, et, b1]
        repeat (refine And.intro (by omega) ?_)
        exact ⟨i + 1, by omega, by omega, Le.syn (by simp (disch := omega) [leS, hC, w64, e])⟩
      | true =>
        cases b2 : gt side t with
        | true =>
          have e : thr l side (i + 1) = thr l side i := by simp [thr, ov, b1, b2]
          simp (disch := omega) [hlt, lget_arcP, lget_bov, ef, et, b1, b2]
          repeat (refine And.intro (by omega) ?_)
          exact ⟨i + 1, by omega, by omega, Le.syn (by simp (disch := omega) [leS, hC, w64, e])⟩
        | false =>
          have e : thr l side (i + 1) = thr l side i + (gt l i).cap := by simp [thr, ov, b1, b2]
          simp (disch := omega) [hlt, lget_arcP, lget_bov, ef, et, b1, b2]
          repeat (refine And.intro (by omega) ?_)
          refine CodeJ.draw (.qs [0, 1, 2, 3, 4, 5] <| .l 6 [] <| .l 7 [1] <| .nil) (by kernel_rfl) (by kernel_rfl) (by simp) ?_
          simp (disch := omega) [hlt, lget_arcP]
          repeat (refine And.intro (by omega) ?_)
          refine callS (pAdd_ok _ _ (qok_of q1 (by omega)) (qok_of q2 (by omega))) (by simp) ?_
          simp (disch := omega) [w64]
          repeat (refine And.intro (by omega) ?_)
          exact ⟨i + 1, by omega, by omega, Le.syn (by simp (disch := omega) [leS, hC, w64, e])⟩
    · obtain rfl : i = l.length := by omega
      simp
theorem rSameRow_ok (a b : List Rat) {k : Nat} (hk : k ≤ 10000000000) (ha : Wd k a) (hb : Wd k b) (na : a.length ≤ 1048576) (nb : b.length ≤ 1048576) : PureF Tryz.prog 140 [.ro (a.map qsv), .ro (b.map qsv)] (.val (.bool (decide (a = b)))) := by
  refine pure_enter Tryz.func140 rfl (by simp) (fun C hC => ?_)
  simp
  by_cases h0 : a.length = b.length
  · refine ⟨fun _ => by omega, fun _ => ?_⟩
    refine CodeJ.loopL (ι := Nat) (fun i => ⟨29, [(0, .ro (a.map qsv)), (1, .ro (b.map qsv)), (5, iv i)], []⟩)
      (fun i => i ≤ a.length ∧ ∀ k, k < i → gt a k = gt b k) (fun i => a.length - i) 0 ?_ ?_ ?_
    · simp
    · simp [leS, hC]
    · rintro i ⟨hi, hk⟩
      by_cases hlt : i < a.length
      · have q1 := ha i hlt
        have q2 := hb i (by omega)
        simp (disch := omega) [hlt, lget_q]
        repeat (refine And.intro (by omega) ?_)
        refine CodeJ.draw (.qs [0, 1, 2, 3, 4, 5, 6, 7] <| .l 8 [] <| .qs [9] <| .nil) (by kernel_rfl) (by kernel_rfl) (by simp) ?_
        simp (disch := omega) [hlt, lget_q]
        repeat (refine And.intro (by omega) ?_)
        refine callS (cmpP _ _ (qok_of q1 (by omega)) (qok_of q2 (by omega))) (by simp) ?_
        simp (disch := omega) [w64]
        repeat (refine And.intro (by omega) ?_)
        refine ⟨fun h e => h (by rw [e]), fun h => ⟨i + 1, ⟨by omega, step_lt hk h⟩, by omega, Le.syn (by simp (disch := omega) [leS, hC, w64])⟩⟩
      · obtain rfl : i = a.length := by omega
        have : a = b := ext_gt' h0 hk
        simp [this]
  · have : ¬ a = b := fun e => h0 (by rw [e])
    simp [this]
    omega
end Go.Proofs

