/- What the document makes of a flow that is the most: wide numbers. A text of the prover's own. -/
import Derived.Test.YtilpfpephcngbaaGreatDoorNFa
import Derived.Test.YtilpfpephcngbaaGreatDoorNBb
import Derived.Test.YtilpfpephcngbaaGreatDoorNQt
namespace Go.Ne
open Go Go.Sv Go.Pl Go.Proofs Go.Tb Go.Ut
theorem qw_dl1K {l : List Arc} {flow : List Rat} (hf : Wd 700000 flow) (hl : flow.length = l.length) (v : Nat) {i : Nat} (h : i < l.length) {k : Nat} (hd : qw k (dl l flow v i)) : qw (k + 700001) (dl l flow v i + if (gt l i).f.toNat = v then gt flow i else 0) :=
  qw_mono (qw_add hd (qw_if (hf i (by omega)) (by omega))) (by omega)
theorem qw_dlK {l : List Arc} {flow : List Rat} (hf : Wd 700000 flow) (hl : flow.length = l.length) (v : Nat) : ∀ i, i ≤ l.length → qw (1 + 1400002 * i) (dl l flow v i)
  | 0, _ => qw_zero _ (by omega)
  | i + 1, h => qw_mono (qw_sub (qw_dl1K hf hl v (by omega) (qw_dlK hf hl v i (by omega))) (qw_if (hf i (by omega)) (by omega))) (by omega)
end Go.Ne
namespace Go.Proofs
open Go.Sv Go Go.Tb Go.Pl Go.Ut Go.Ne Go.Fl
set_option maxRecDepth 10000 in
theorem rWithinK_ok (l : List Arc) (hw : ArcW l) (flow : List Rat) (hf : Wd 700000 flow) (hn : flow.length ≤ 1048576) : PureF Tryz.prog 189 [.ro (l.map arcP), .ro (flow.map qsv)] (.val (.bool (withB l flow))) := by
  have hl := hw.n
  refine pure_enter Tryz.func189 rfl (by simp) (fun C hC => ?_)
  simp
  by_cases h0 : flow.length = l.length
  · refine ⟨fun _ => by omega, fun _ => ?_⟩
    refine CodeJ.loopL (ι := Nat) (fun i => ⟨40, [(0, .ro (l.map arcP)), (1, .ro (flow.map qsv)), (5, iv i)], []⟩)
      (fun i => i ≤ l.length ∧ ∀ k, k < i → 0 ≤ gt flow k ∧ gt flow k ≤ (gt l k).cap) (fun i => l.length - i) 0 ?_ ?_ ?_
    · simp
    · simp [leS, hC]
    · rintro i ⟨hi, hk⟩
      by_cases hlt : i < l.length
      · have q1 := hf i (by omega)
        have q2 := hw.cap i hlt
        simp (disch := omega) [hlt, lget_q]
        repeat (refine And.intro (by omega) ?_)
        refine callS (sgnP (gt flow i)) (by simp) ?_
        simp (disch := omega) [hlt, lget_q]
        repeat (refine And.intro (by omega) ?_)
        refine CodeJ.draw (.qs [0, 1, 2, 3, 4, 5, 6, 7, 8] <| .l 9 [] <| .qs [10] <| .nil) (by kernel_rfl) (by kernel_rfl) (by simp) ?_
        simp (disch := omega) [hlt, lget_q, lget_arcP]
        repeat (refine And.intro (by omega) ?_)
        refine callS (cmpP _ _ (qok_of q1 (by omega)) (qok_of q2 (by omega))) (by simp) ?_
        simp (disch := omega) [w64]
        repeat (refine And.intro (by omega) ?_)
        repeat' (apply And.intro <;> intro _)
        all_goals first | exact withB_no (fun h => by have := h.a i hlt; grind) | exact ⟨i + 1, ⟨by omega, step_lt hk (by grind)⟩, by omega, Le.syn (by simp (disch := omega) [leS, hC, w64])⟩
      · obtain rfl : i = l.length := by omega
        simp [withB_yes ⟨h0, hk⟩]
  · have := withB_no (l := l) (flow := flow) (fun h => h0 h.n)
    rw [this]
    exact ⟨fun _ => rfl, fun _ => by omega⟩
set_option maxRecDepth 10000 in
theorem rLeftK_ok (n : Nat) (l : List Arc) (hn : Net n l) (hw : ArcW l) (flow : List Rat) (hf : Wd 700000 flow) (hfl : flow.length = l.length) : PureF Tryz.prog 190 [iv n, .ro (l.map arcP), .ro (flow.map qsv)] (.ro ((outs n l flow l.length).map qsv)) := by
  have hl := hw.n
  have n2 := hn.n2
  have m := hn.m
  refine pure_enter Tryz.func190 rfl (by simp) (fun C hC => ?_)
  simp (disch := omega) [w64]
  repeat (refine And.intro (by omega) ?_)
  refine CodeJ.le (Le.nl _) ?_
  simp [nlS, nlL_rep]
  refine CodeJ.loopL (ι := Nat) (fun v => ⟨68, [(0, iv n), (1, .ro (l.map arcP)), (2, .ro (flow.map qsv)), (7, .view 0 0 n), (8, iv v)], [some ⟨4, List.replicate v (qsv 0) ++ List.replicate (n - v) (.agg [.val (.bool false), .ro [], .val (.bool false), .ro []]), false⟩]⟩)
    (fun v => v ≤ n) (fun v => n - v) 0 ?_ ?_ ?_
  · simp
  · simp [leS, hC]
  · rintro v hv
    by_cases hvt : v < n
    · have e1 := lget_fill (A := List.replicate v (qsv 0)) (n := n) (v := v) (z := .agg [.val (.bool false), .ro [], .val (.bool false), .ro []]) (by simp) hvt
      have e2 := lset_fill (A := List.replicate v (qsv 0)) (n := n) (v := v) (z := .agg [.val (.bool false), .ro [], .val (.bool false), .ro []]) (y := qsv 0) (by simp) hvt
      simp (disch := omega) [hvt]
      repeat (refine And.intro (by omega) ?_)
      refine callS (zeroP) (by simp) ?_
      simp (disch := omega) [hvt, e1, e2, w64]
      repeat (refine And.intro (by omega) ?_)
      exact ⟨v + 1, by omega, by omega, Le.syn (by simp (disch := omega) [leS, hC, w64, List.replicate_succ' (n := v), ltL_rep])⟩
    · obtain rfl : n = v := by omega
      simp (disch := omega) [List.append_nil]
      repeat (refine And.intro (by omega) ?_)
      refine CodeJ.loopL (ι := Nat) (fun i => ⟨68, [(1, .ro (l.map arcP)), (2, .ro (flow.map qsv)), (7, .view 0 0 n), (9, iv i)], [some ⟨4, (outs n l flow i).map qsv, false⟩]⟩)
        (fun i => i ≤ l.length) (fun i => l.length - i) 0 ?_ ?_ ?_
      · simp
      · simp [leS, hC, outs_zero]
      · rintro i hi
        by_cases hlt : i < l.length
        · obtain ⟨f, t, ef, et, hf', ht⟩ := hn.a i hlt
          have q1 := qw_dlK hf hfl f i hi
          have q2 := qw_dl1K hf hfl t hlt (qw_dlK hf hfl t i hi)
          have q3 := hf i (by omega)
          have e1 : lget ((outs n l flow i).map qsv) f = qsv (dl l flow f i) := by rw [lget_q (by simpa using hf'), gt_outs hf']
          have e2 : lget ((outs1 n l flow i).map qsv) t = qsv (dl l flow t i + if (gt l i).f.toNat = t then gt flow i else 0) := by rw [lget_q (by simpa using ht), gt_outs1 ht]
          have e3 := outs_set (flow := flow) ef hf'
          have e4 := outs1_set (flow := flow) et ht
          simp (disch := omega) [hlt, lget_arcP, ef]
          repeat (refine And.intro (by omega) ?_)
          refine CodeJ.draw (.qs [0, 1, 2, 3, 4, 5, 6, 7, 8, 9, 10, 11, 12, 13, 14, 15, 16, 17] <| .l 18 [] <| .qs [19] <| .l 20 [0] <| .nil) (by kernel_rfl) (by kernel_rfl) (by simp) ?_
          simp (disch := omega) [hlt, lget_arcP, ef, lget_q, e1, hfl]
          repeat (refine And.intro (by omega) ?_)
          refine callS (pAdd_ok _ _ (qok_of q1 (by omega)) (qok_of q3 (by omega))) (by simp) ?_
          simp (disch := omega) [hlt, lget_arcP, ef, e1, lset_eq, q_set, e3, hfl, -List.map_set]
          repeat (refine And.intro (by omega) ?_)
          refine CodeJ.draw (.qs [0, 1, 2, 3, 4, 5, 6, 7, 8, 9, 10, 11, 12, 13, 14, 15, 16, 17] <| .l 18 [] <| .qs [19] <| .l 20 [0] <| .nil) (by kernel_rfl) (by kernel_rfl) (by simp) ?_
          simp (disch := omega) [hlt, lget_arcP, et, lget_q, e2, hfl]
          repeat (refine And.intro (by omega) ?_)
          refine callS (pSub_ok _ _ (qok_of q2 (by omega)) (qok_of q3 (by omega))) (by simp) ?_
          simp (disch := omega) [hlt, lget_arcP, et, e2, lset_eq, q_set, e4, hfl, w64, -List.map_set]
          repeat (refine And.intro (by omega) ?_)
          exact ⟨i + 1, by omega, by omega, Le.syn (by simp (disch := omega) [leS, hC, w64])⟩
        · obtain rfl : i = l.length := by omega
          simp [List.take_of_length_le]
set_option maxRecDepth 10000 in
/-- the document finds a flow and its cut right -/
theorem rMost_ok (n : Nat) (l : List Arc) (hn : Net n l) (hw : ArcW l) (s t : Nat) (hs : s < n) (ht : t < n) (x : List Rat) (hx : Wd 700000 x) (side : List Bool) (hl : side.length = n) (h1 : gt side s = true) (h2 : gt side t = false) (sum : Rat) (hq : qw 1400000 sum) (f : Flow l s t x sum) (hc : thr l side l.length = sum) :
    PureF Tryz.prog 129 [iv n, .ro (l.map arcP), iv s, iv t, .ro (x.map qsv), .ro (side.map bov), qsv sum] (bov true) := by
  have hll := hw.n
  have n2 := hn.n2
  have m := hn.m
  have fl := f.w.n
  have g1 := rWithinK_ok l hw x hx (by omega)
  rw [withB_yes f.w] at g1
  have g2 := rLeftK_ok n l hn hw x hx fl
  have g3 := rThrough_ok n l hn hw side hl
  have l1 := lget_bov (l := side) (i := s) (by omega)
  have l2 := lget_bov (l := side) (i := t) (by omega)
  rw [h1] at l1
  rw [h2] at l2
  refine pure_enter Tryz.func129 rfl (by simp) (fun C hC => ?_)
  simp
  refine callS (g1) (by simp) ?_
  simp (disch := omega) [l1, l2, hl]
  repeat (refine And.intro (by omega) ?_)
  refine callS (g2) (by simp) ?_
  simp
  repeat (refine And.intro (by omega) ?_)
  refine CodeJ.loopL (ι := Nat) (fun v => ⟨88, [(0, iv n), (1, .ro (l.map arcP)), (2, iv s), (3, iv t), (5, .ro (side.map bov)), (13, .ptr 0 0 0), (16, .ro ((outs n l x l.length).map qsv)), (17, iv v)], [some ⟨4, [qsv sum], false⟩]⟩)
    (fun v => v ≤ n) (fun v => n - v) 0 (by simp) ?_ ?_
  · simp [leS, hC]
  · rintro v hv
    by_cases hvn : v < n
    · have lo : lget ((outs n l x l.length).map qsv) v = qsv (dl l x v l.length) := by rw [lget_q (by simpa using hvn), gt_outs hvn]
      have z := f.z v
      simp (disch := omega) [hvn, lo]
      repeat (refine And.intro (by omega) ?_)
      refine callS (sgnP (dl l x v l.length)) (by simp) ?_
      simp (disch := omega) [w64]
      repeat (refine And.intro (by omega) ?_)
      repeat' (apply And.intro <;> intro _)
      all_goals first | exact ⟨v + 1, by omega, by omega, Le.syn (by simp (disch := omega) [leS, hC, w64])⟩ | exact ⟨z (by omega) (by omega), fun _ => ⟨v + 1, by omega, by omega, Le.syn (by simp (disch := omega) [leS, hC, w64])⟩⟩
    · obtain rfl : n = v := by omega
      have lo : lget ((outs n l x l.length).map qsv) s = qsv sum := by rw [lget_q (by simpa using hs), gt_outs hs, f.s]
      simp
      repeat (refine And.intro (by omega) ?_)
      refine CodeJ.draw (.qs [0, 1, 2, 3, 4] <| .l 5 [] <| .qs [6] <| .nil) (by kernel_rfl) (by kernel_rfl) (by simp) ?_
      simp (disch := omega) [lo]
      repeat (refine And.intro (by omega) ?_)
      refine callS (cmpP _ _ (qok_of hq (by omega)) (qok_of hq (by omega))) (by simp) ?_
      simp
      repeat (refine And.intro (by omega) ?_)
      refine CodeJ.draw (.qs [0, 1, 3] <| .l 2 [] <| .l 4 [] <| .qs [5] <| .nil) (by kernel_rfl) (by kernel_rfl) (by simp) ?_
      simp
      repeat (refine And.intro (by omega) ?_)
      rw [hc] at g3
      refine callS (g3) (by simp) ?_
      simp
      repeat (refine And.intro (by omega) ?_)
      refine callS (cmpP _ _ (qok_of hq (by omega)) (qok_of hq (by omega))) (by simp) ?_
      simp
      repeat (refine And.intro (by omega) ?_)
end Go.Proofs

