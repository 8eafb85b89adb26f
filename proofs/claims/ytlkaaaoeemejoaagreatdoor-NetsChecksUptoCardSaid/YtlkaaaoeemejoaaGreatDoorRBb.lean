/- What the document's functions of nets return. A text of the prover's own. -/
import Derived.Test.YtlkaaaoeemejoaaGreatDoorRBa
namespace Go.Proofs
open Go.Sv Go Go.Tb Go.Pl Go.Ut Go.Ne
set_option maxRecDepth 10000 in
theorem rArcs_ok (l : List ArcS) (h : SmA l) : PureF Tryz.prog 32 [.ro (l.map arcS)] (.tup [.ro (arcsP l), .val (.bool (okA l))]) := by
  have hl := h.n
  refine pure_enter Tryz.func32 rfl (by simp) (fun C hC => ?_)
  simp
  refine CodeJ.nil 4 10 rfl ?_
  refine CodeJ.loopL (ι := Nat × List Arc) (fun ⟨i, xs⟩ => ⟨59, [(0, .ro (l.map arcS)), (4, .view 0 0 xs.length), (5, .val (.int .i64 i))], [some ⟨10, xs.map arcP, false⟩]⟩)
    (fun ⟨i, xs⟩ => i ≤ l.length ∧ xs = (arcs l).take i ∧ ∀ k, k < i → (qrd 300 (gt l k).cap).2.1 = 0 ∧ (qrd 300 (gt l k).cost).2.1 = 0) (fun ⟨i, xs⟩ => l.length - i) (0, []) ?_ ?_ ?_
  · simp
  · simp [leS, hC]
  · rintro ⟨i, xs⟩ ⟨hi, hx, hk⟩
    have hxl : xs.length = i := by rw [hx]; simp; omega
    by_cases hlt : i < l.length
    · have hx' := arcs_take hlt
      rw [← hx] at hx'
      have s1 := h.cap i hlt
      have s2 := h.cost i hlt
      have g1 := pQRead_ok (gt l i).cap (by omega)
      have g2 := pQRead_ok (gt l i).cost (by omega)
      simp (disch := omega) [hlt, lget_arcS]
      repeat (refine And.intro (by omega) ?_)
      by_cases hq : (qrd 300 (gt l i).cap).2.1 = 0
      · refine callS (pnum_ok (gt l i).cap (by omega) hq) (by simp) ?_
        simp (disch := omega) [hlt, lget_arcS, fsv]
        repeat (refine And.intro (by omega) ?_)
        by_cases hq2 : (qrd 300 (gt l i).cost).2.1 = 0
        · refine callS (pnum_ok (gt l i).cost (by omega) hq2) (by simp) ?_
          simp (disch := omega) [fsv]
          repeat (refine And.intro (by omega) ?_)
          refine CodeJ.draw (.qs [0, 1, 2, 3, 4, 5, 6, 7, 8, 9, 10, 11, 12, 13] <| .l 14 [] <| .l 15 [1000000] <| .qs [16] <| .nil) (by kernel_rfl) (by kernel_rfl) (by simp) ?_
          simp (disch := omega) [hlt, lget_arcS, w64, arcP_mk]
          repeat (refine And.intro (by omega) ?_)
          exact ⟨⟨by simp [hC], by omega⟩, i + 1, xs ++ [arcOf (gt l i)], ⟨by omega, hx'.symm, step_lt hk ⟨hq, hq2⟩⟩, by omega, Le.syn (by simp (disch := omega) [leS, hC, w64, arcOf])⟩
        · refine callS (g2) (by simp) ?_
          have := okA_false hlt (fun h => hq2 h.2)
          simp [outP, hq2, fsv, arcsP, this]
      · refine callS (g1) (by simp) ?_
        simp (disch := omega) [hlt, lget_arcS, outP, hq, fsv]
        repeat (refine And.intro (by omega) ?_)
        have := okA_false hlt (fun h => hq h.1)
        refine callS (g2) (by simp) ?_
        by_cases hq2 : (qrd 300 (gt l i).cost).2.1 = 0
        · simp [outP, hq2, hq, fsv, arcsP, this]
        · simp [outP, hq2, hq, fsv, arcsP, this]
    · obtain rfl : i = l.length := by omega
      have := okA_true hk
      rw [List.take_of_length_le (by simp)] at hx
      simp [arcsP, this, hx, List.take_of_length_le]
set_option maxRecDepth 10000 in
theorem rNetValid_ok (n : Int) (l : List Arc) (hl : l.length ≤ 1048576) : PureF Tryz.prog 34 [iv n, .ro (l.map arcP)] (iv (netC n l : Nat)) := by
  refine pure_enter Tryz.func34 rfl (by simp) (fun C hC => ?_)
  simp
  by_cases h0 : n < 1 ∨ 60 < n ∨ 300 < l.length
  · rw [netC_2 h0]
    exact ⟨fun c1 => ⟨fun c2 => ⟨fun _ => rfl, fun c3 => by omega⟩, fun _ => rfl⟩, fun _ => rfl⟩
  · refine ⟨fun c1 => ⟨fun c2 => ⟨fun c3 => by omega, fun c3 => ?_⟩, fun _ => by omega⟩, fun _ => by omega⟩
    refine CodeJ.loopL (ι := Nat) (fun i => ⟨66, [(0, iv n), (1, .ro (l.map arcP)), (5, iv i)], []⟩)
      (fun i => i ≤ l.length ∧ ∀ k, k < i → ¬ bad n (gt l k)) (fun i => l.length - i) 0 ?_ ?_ ?_
    · simp
    · simp [leS, hC]
    · rintro i ⟨hi, hk⟩
      by_cases hlt : i < l.length
      · simp (disch := omega) [hlt, lget_arcP]
        repeat (refine And.intro (by omega) ?_)
        refine callS (sgnP (gt l i).cap) (by simp) ?_
        simp (disch := omega) [hlt, lget_arcP]
        repeat (refine And.intro (by omega) ?_)
        repeat' (apply And.intro <;> intro _)
        all_goals first | (rw [netC_4 h0 hlt (by unfold bad; grind)]; rfl) | exact ⟨i + 1, ⟨by omega, step_lt hk (by unfold bad; grind)⟩, by omega, Le.syn (by simp (disch := omega) [leS, hC, w64])⟩
      · obtain rfl : i = l.length := by omega
        simp [netC_0 h0 hk]
theorem rWithin_ok (l : List Arc) (hw : ArcW l) (flow : List Rat) (hf : Wd 2200 flow) (hn : flow.length ≤ 1048576) : PureF Tryz.prog 90 [.ro (l.map arcP), .ro (flow.map qsv)] (.val (.bool (withB l flow))) := by
  have hl := hw.n
  refine pure_enter Tryz.func90 rfl (by simp) (fun C hC => ?_)
  simp
  by_cases h0 : flow.length = l.length
  · refine ⟨fun _ => by omega, fun _ => ?_⟩
    refine CodeJ.loopL (ι := Nat) (fun i => ⟨40, [(0, .ro (l.map arcP)), (1, .ro (flow.map qsv)), (5, iv i)], []⟩)
      (fun i => i ≤ l.length ∧ ∀ k, k < i → 0 ≤ gt flow k ∧ gt flow k ≤ (gt l k).cap) (fun i => l.length - i) 0 ?_ ?_ ?_
    · simp
    · simp [leS, hC]
    · rintro i ⟨hi, hk⟩
      by_cases hlt : i < l.length
      · have q1 := hf i (by omega)
        have q2 := hw.cap i hlt
        simp (disch := omega) [hlt, lget_q]
        repeat (refine And.intro (by omega) ?_)
        refine callS (sgnP (gt flow i)) (by simp) ?_
        simp (disch := omega) [hlt, lget_q]
        repeat (refine And.intro (by omega) ?_)
        refine CodeJ.draw (.qs [0, 1, 2, 3, 4, 5, 6, 7, 8] <| .l 9 [] <| .qs [10] <| .nil) (by kernel_rfl) (by kernel_rfl) (by simp) ?_
        simp (disch := omega) [hlt, lget_q, lget_arcP]
        repeat (refine And.intro (by omega) ?_)
        refine callS (cmpP _ _ (qok_of q1 (by omega)) (qok_of q2 (by omega))) (by simp) ?_
        simp (disch := omega) [w64]
        repeat (refine And.intro (by omega) ?_)
        repeat' (apply And.intro <;> intro _)
        all_goals first | exact withB_no (fun h => by have := h.a i hlt; grind) | exact ⟨i + 1, ⟨by omega, step_lt hk (by grind)⟩, by omega, Le.syn (by simp (disch := omega) [leS, hC, w64])⟩
      · obtain rfl : i = l.length := by omega
        simp [withB_yes ⟨h0, hk⟩]
  · have := withB_no (l := l) (flow := flow) (fun h => h0 h.n)
    rw [this]
    exact ⟨fun _ => rfl, fun _ => by omega⟩
theorem rThrough_ok (n : Nat) (l : List Arc) (hn : Net n l) (hw : ArcW l) (side : List Bool) (hs : side.length = n) : PureF Tryz.prog 89 [.ro (l.map arcP), .ro (side.map bov)] (qsv (thr l side l.length)) := by
  have hl := hw.n
  refine pure_enter Tryz.func89 rfl (by simp) (fun C hC => ?_)
  simp
  refine callS (zeroP) (by simp) ?_
  simp
  refine CodeJ.loopL (ι := Nat) (fun i => ⟨41, [(0, .ro (l.map arcP)), (1, .ro (side.map bov)), (4, .ptr 0 0 0), (5, .ptr 1 0 0), (6, iv i)], [some ⟨4, [.agg [.val (.bool false), .val (.slice none 0 0), .val (.bool false), .val (.slice none 0 0)]], false⟩, some ⟨4, [qsv (thr l side i)], false⟩]⟩)
    (fun i => i ≤ l.length) (fun i => l.length - i) 0 ?_ ?_ ?_
  · simp
  · simp [leS, hC, thr]
  · rintro i hi
    by_cases hlt : i < l.length
    · obtain ⟨f, t, ef, et, hf, ht⟩ := hn.a i hlt
      have q1 := qw_thr hw side i hi
      have q2 := hw.cap i hlt
      have n2 := hn.n2
      have m := hn.m
      have ov : over l side i = (gt side f && !gt side t) := by simp [over, ef, et]
      cases b1 : gt side f with
      | false =>
        have e : thr l side (i + 1) = thr l side i := by simp [thr, ov, b1]
        simp (disch := omega) [hlt, lget_arcP, lget_bov, ef, et, b1]
        repeat (refine And.intro (by omega) ?_)
        exact ⟨i + 1, by omega, by omega, Le.syn (by simp (disch := omega) [leS, hC, w64, e])⟩
      | true =>
        cases b2 : gt side t with
        | true =>
          have e : thr l side (i + 1) = thr l side i := by simp [thr, ov, b1, b2]
          simp (disch := omega) [hlt, lget_arcP, lget_bov, ef, et, b1, b2]
          repeat (refine And.intro (by omega) ?_)
          exact ⟨i + 1, by omega, by omega, Le.syn (by simp (disch := omega) [leS, hC, w64, e])⟩
        | false =>
          have e : thr l side (i + 1) = thr l side i + (gt l i).cap := by simp [thr, ov, b1, b2]
          simp (disch := omega) [hlt, lget_arcP, lget_bov, ef, et, b1, b2]
          repeat (refine And.intro (by omega) ?_)
          refine CodeJ.draw (.qs [0, 1, 2, 3, 4, 5] <| .l 6 [] <| .l 7 [1] <| .nil) (by kernel_rfl) (by kernel_rfl) (by simp) ?_
          simp (disch := omega) [hlt, lget_arcP]
          repeat (refine And.intro (by omega) ?_)
          refine callS (pAdd_ok _ _ (qok_of q1 (by omega)) (qok_of q2 (by omega))) (by simp) ?_
          simp (disch := omega) [w64]
          repeat (refine And.intro (by omega) ?_)
          exact ⟨i + 1, by omega, by omega, Le.syn (by simp (disch := omega) [leS, hC, w64, e])⟩
    · obtain rfl : i = l.length := by omega
      simp
theorem rSameRow_ok (a b : List Rat) {k : Nat} (hk : k ≤ 10000000000) (ha : Wd k a) (hb : Wd k b) (na : a.length ≤ 1048576) (nb : b.length ≤ 1048576) : PureF Tryz.prog 92 [.ro (a.map qsv), .ro (b.map qsv)] (.val (.bool (decide (a = b)))) := by
  refine pure_enter Tryz.func92 rfl (by simp) (fun C hC => ?_)
  simp
  by_cases h0 : a.length = b.length
  · refine ⟨fun _ => by omega, fun _ => ?_⟩
    refine CodeJ.loopL (ι := Nat) (fun i => ⟨29, [(0, .ro (a.map qsv)), (1, .ro (b.map qsv)), (5, iv i)], []⟩)
      (fun i => i ≤ a.length ∧ ∀ k, k < i → gt a k = gt b k) (fun i => a.length - i) 0 ?_ ?_ ?_
    · simp
    · simp [leS, hC]
    · rintro i ⟨hi, hk⟩
      by_cases hlt : i < a.length
      · have q1 := ha i hlt
        have q2 := hb i (by omega)
        simp (disch := omega) [hlt, lget_q]
        repeat (refine And.intro (by omega) ?_)
        refine CodeJ.draw (.qs [0, 1, 2, 3, 4, 5, 6, 7] <| .l 8 [] <| .qs [9] <| .nil) (by kernel_rfl) (by kernel_rfl) (by simp) ?_
        simp (disch := omega) [hlt, lget_q]
        repeat (refine And.intro (by omega) ?_)
        refine callS (cmpP _ _ (qok_of q1 (by omega)) (qok_of q2 (by omega))) (by simp) ?_
        simp (disch := omega) [w64]
        repeat (refine And.intro (by omega) ?_)
        refine ⟨fun h e => h (by rw [e]), fun h => ⟨i + 1, ⟨by omega, step_lt hk h⟩, by omega, Le.syn (by simp (disch := omega) [leS, hC, w64])⟩⟩
      · obtain rfl : i = a.length := by omega
        have : a = b := ext_gt' h0 hk
        simp [this]
  · have : ¬ a = b := fun e => h0 (by rw [e])
    simp [this]
    omega
theorem rLeft_ok (n : Nat) (l : List Arc) (hn : Net n l) (hw : ArcW l) (flow : List Rat) (hf : Wd 2200 flow) (hfl : flow.length = l.length) : PureF Tryz.prog 91 [iv n, .ro (l.map arcP), .ro (flow.map qsv)] (.ro ((outs n l flow l.length).map qsv)) := by
  have hl := hw.n
  have n2 := hn.n2
  have m := hn.m
  refine pure_enter Tryz.func91 rfl (by simp) (fun C hC => ?_)
  simp (disch := omega) [w64]
  repeat (refine And.intro (by omega) ?_)
  refine CodeJ.le (Le.nl _) ?_
  simp [nlS, nlL_rep]
  refine CodeJ.loopL (ι := Nat) (fun v => ⟨68, [(0, iv n), (1, .ro (l.map arcP)), (2, .ro (flow.map qsv)), (7, .view 0 0 n), (8, iv v)], [some ⟨4, List.replicate v (qsv 0) ++ List.replicate (n - v) (.agg [.val (.bool false), .ro [], .val (.bool false), .ro []]), false⟩]⟩)
    (fun v => v ≤ n) (fun v => n - v) 0 ?_ ?_ ?_
  · simp
  · simp [leS, hC]
  · rintro v hv
    by_cases hvt : v < n
    · have e1 := lget_fill (A := List.replicate v (qsv 0)) (n := n) (v := v) (z := .agg [.val (.bool false), .ro [], .val (.bool false), .ro []]) (by simp) hvt
      have e2 := lset_fill (A := List.replicate v (qsv 0)) (n := n) (v := v) (z := .agg [.val (.bool false), .ro [], .val (.bool false), .ro []]) (y := qsv 0) (by simp) hvt
      simp (disch := omega) [hvt]
      repeat (refine And.intro (by omega) ?_)
      refine callS (zeroP) (by simp) ?_
      simp (disch := omega) [hvt, e1, e2, w64]
      repeat (refine And.intro (by omega) ?_)
      exact ⟨v + 1, by omega, by omega, Le.syn (by simp (disch := omega) [leS, hC, w64, List.replicate_succ' (n := v), ltL_rep])⟩
    · obtain rfl : n = v := by omega
      simp (disch := omega) [List.append_nil]
      repeat (refine And.intro (by omega) ?_)
      refine CodeJ.loopL (ι := Nat) (fun i => ⟨68, [(1, .ro (l.map arcP)), (2, .ro (flow.map qsv)), (7, .view 0 0 n), (9, iv i)], [some ⟨4, (outs n l flow i).map qsv, false⟩]⟩)
        (fun i => i ≤ l.length) (fun i => l.length - i) 0 ?_ ?_ ?_
      · simp
      · simp [leS, hC, outs_zero]
      · rintro i hi
        by_cases hlt : i < l.length
        · obtain ⟨f, t, ef, et, hf', ht⟩ := hn.a i hlt
          have q1 := qw_dl hf hfl f i hi
          have q2 := qw_dl1 hf hfl t hlt (qw_dl hf hfl t i hi)
          have q3 := hf i (by omega)
          have e1 : lget ((outs n l flow i).map qsv) f = qsv (dl l flow f i) := by rw [lget_q (by simpa using hf'), gt_outs hf']
          have e2 : lget ((outs1 n l flow i).map qsv) t = qsv (dl l flow t i + if (gt l i).f.toNat = t then gt flow i else 0) := by rw [lget_q (by simpa using ht), gt_outs1 ht]
          have e3 := outs_set (flow := flow) ef hf'
          have e4 := outs1_set (flow := flow) et ht
          simp (disch := omega) [hlt, lget_arcP, ef]
          repeat (refine And.intro (by omega) ?_)
          refine CodeJ.draw (.qs [0, 1, 2, 3, 4, 5, 6, 7, 8, 9, 10, 11, 12, 13, 14, 15, 16, 17] <| .l 18 [] <| .qs [19] <| .l 20 [0] <| .nil) (by kernel_rfl) (by kernel_rfl) (by simp) ?_
          simp (disch := omega) [hlt, lget_arcP, ef, lget_q, e1, hfl]
          repeat (refine And.intro (by omega) ?_)
          refine callS (pAdd_ok _ _ (qok_of q1 (by omega)) (qok_of q3 (by omega))) (by simp) ?_
          simp (disch := omega) [hlt, lget_arcP, ef, e1, lset_eq, q_set, e3, hfl, -List.map_set]
          repeat (refine And.intro (by omega) ?_)
          refine CodeJ.draw (.qs [0, 1, 2, 3, 4, 5, 6, 7, 8, 9, 10, 11, 12, 13, 14, 15, 16, 17] <| .l 18 [] <| .qs [19] <| .l 20 [0] <| .nil) (by kernel_rfl) (by kernel_rfl) (by simp) ?_
          simp (disch := omega) [hlt, lget_arcP, et, lget_q, e2, hfl]
          repeat (refine And.intro (by omega) ?_)
          refine callS (pSub_ok _ _ (qok_of q2 (by omega)) (qok_of q3 (by omega))) (by simp) ?_
          simp (disch := omega) [hlt, lget_arcP, et, e2, lset_eq, q_set, e4, hfl, w64, -List.map_set]
          repeat (refine And.intro (by omega) ?_)
          exact ⟨i + 1, by omega, by omega, Le.syn (by simp (disch := omega) [leS, hC, w64])⟩
        · obtain rfl : i = l.length := by omega
          simp [List.take_of_length_le]
set_option maxRecDepth 10000 in
theorem rShipped_ok (n : Nat) (l : List Arc) (hn : Net n l) (hw : ArcW l) (k : List Rat) (hk : Wd 2200 k) (hkl : k.length = n) (p : Ship) (hp : ShipW p) : PureF Tryz.prog 35 [iv n, .ro (l.map arcP), .ro (k.map qsv), shipP p] (.val (.bool (shipB n l k p))) := by
  have hl := hw.n
  have n2 := hn.n2
  have m := hn.m
  have p1 := hp.fn
  have p2 := hp.pn
  have p3 := hp.sn
  refine pure_enter Tryz.func35 rfl (by simp) (fun C hC => ?_)
  simp
  repeat (refine And.intro (by omega) ?_)
  cases hnn : p.none with
  | true =>
    simp
    repeat (refine And.intro (by omega) ?_)
    by_cases hs : p.side.length = n
    · refine ⟨fun h => absurd (by omega) h, fun _ => ?_⟩
      refine callS (zeroP) (by simp) ?_
      simp
      repeat (refine And.intro (by omega) ?_)
      refine CodeJ.loopL (ι := Nat) (fun v => ⟨164, [(0, iv n), (1, .ro (l.map arcP)), (2, .ro (k.map qsv)), (7, .ptr 0 0 0), (9, .ptr 1 0 0), (10, iv v)], [some ⟨8, [shipP p], false⟩, some ⟨4, [qsv (hasv k p.side v)], false⟩]⟩)
        (fun v => v ≤ n) (fun v => n - v) 0 ?_ ?_ ?_
      · simp
      · simp [leS, hC, hasv]
      · rintro v hv
        by_cases hvt : v < n
        · have q1 := qw_hasv hk p.side v (by omega)
          have q2 := hk v (by omega)
          cases b : gt p.side v with
          | false =>
            have e : hasv k p.side (v + 1) = hasv k p.side v := by simp [hasv, b]
            simp (disch := omega) [hvt, lget_bov, b, hs]
            repeat (refine And.intro (by omega) ?_)
            exact ⟨v + 1, by omega, by omega, Le.syn (by simp (disch := omega) [leS, hC, w64, e])⟩
          | true =>
            have e : hasv k p.side (v + 1) = hasv k p.side v + gt k v := by simp [hasv, b]
            simp (disch := omega) [hvt, lget_bov, b, hs]
            repeat (refine And.intro (by omega) ?_)
            refine CodeJ.draw (.qs [0, 1, 2, 3, 4] <| .l 5 [] <| .l 6 [1] <| .nil) (by kernel_rfl) (by kernel_rfl) (by simp) ?_
            simp (disch := omega) [hvt, lget_q, hkl]
            repeat (refine And.intro (by omega) ?_)
            refine callS (pAdd_ok _ _ (qok_of q1 (by omega)) (qok_of q2 (by omega))) (by simp) ?_
            simp (disch := omega) [w64]
            repeat (refine And.intro (by omega) ?_)
            exact ⟨v + 1, by omega, by omega, Le.syn (by simp (disch := omega) [leS, hC, w64, e])⟩
        · obtain rfl : n = v := by omega
          have q1 := qw_hasv hk p.side n (by omega)
          have q2 := qw_thr hw p.side l.length (by omega)
          simp (disch := omega) [hvt]
          repeat (refine And.intro (by omega) ?_)
          refine CodeJ.draw (.qs [0, 1, 2, 3] <| .l 4 [] <| .l 5 [] <| .qs [6] <| .nil) (by kernel_rfl) (by kernel_rfl) (by simp) ?_
          simp
          repeat (refine And.intro (by omega) ?_)
          refine callS (rThrough_ok n l hn hw p.side hs) (by simp) ?_
          simp
          repeat (refine And.intro (by omega) ?_)
          refine callS (cmpP _ _ (qok_of q1 (by omega)) (qok_of q2 (by omega))) (by simp) ?_
          simp
          repeat (refine And.intro (by omega) ?_)
          by_cases hc : thr l p.side l.length < hasv k p.side n
          · rw [yesN hnn ⟨hs, hc⟩]; simp [hc]
          · rw [noN hnn (fun h => hc h.c)]; simp [hc]
    · rw [noN hnn (fun h => hs h.sn)]
      exact ⟨fun _ => rfl, fun h => absurd (by omega) hs⟩
  | false =>
    simp
    repeat (refine And.intro (by omega) ?_)
    refine callS (rWithin_ok l hw p.flow hp.wf hp.fn) (by simp) ?_
    simp
    repeat (refine And.intro (by omega) ?_)
    by_cases hwi : Within l p.flow
    · rw [withB_yes hwi]
      simp
      repeat (refine And.intro (by omega) ?_)
      by_cases hpr : p.prices.length = n
      · refine ⟨fun h => absurd (by omega) h, fun _ => ?_⟩
        refine callS (rLeft_ok n l hn hw p.flow hp.wf hwi.n) (by simp) ?_
        have wo : Wd 3000000 (outs n l p.flow l.length) := fun v hv => by
          simp only [outs_len] at hv
          rw [gt_outs hv]; exact qw_mono (qw_dl hp.wf hwi.n v _ (Nat.le_refl _)) (by omega)
        have wk : Wd 3000000 k := fun v hv => qw_mono (hk v hv) (by omega)
        simp
        repeat (refine And.intro (by omega) ?_)
        refine callS (rSameRow_ok (outs n l p.flow l.length) k (by omega) wo wk (by simp; omega) (by omega)) (by simp) ?_
        by_cases hd : outs n l p.flow l.length = k
        · simp [hd]
          repeat (refine And.intro (by omega) ?_)
          refine callS (zeroP) (by simp) ?_
          simp
          repeat (refine And.intro (by omega) ?_)
          have wf := hwi.n
          refine CodeJ.loopL (ι := Nat) (fun i => ⟨164, [(1, .ro (l.map arcP)), (7, .ptr 0 0 0), (15, .ptr 1 0 0), (16, iv i)], [some ⟨8, [shipP p], false⟩, some ⟨4, [qsv (costv l p.flow i)], false⟩]⟩)
            (fun i => i ≤ l.length ∧ ∀ j, j < i → ¬ slack l p j) (fun i => l.length - i) 0 ?_ ?_ ?_
          · simp
          · simp [leS, hC, costv]
          · rintro i ⟨hi, hs⟩
            by_cases hlt : i < l.length
            · obtain ⟨f, t, ef, et, hf, ht⟩ := hn.a i hlt
              have q1 := hw.cost i hlt
              have q2 := hp.wf i (by omega)
              have q3 := qw_costv hw hp.wf hwi.n i hi
              have q4 := qw_mul q1 q2 (by omega)
              have q5 := hp.wp f (by omega)
              have q6 := hp.wp t (by omega)
              have q7 := qw_add q1 q5
              have q8 := hw.cap i hlt
              have er : red (gt l i) p = (gt l i).cost + gt p.prices f - gt p.prices t := by simp [red, ef, et]
              have hsl : slack l p i ↔ (red (gt l i) p < 0 ∧ gt p.flow i < (gt l i).cap) ∨ (0 < red (gt l i) p ∧ 0 < gt p.flow i) := Iff.rfl
              simp (disch := omega) [hlt]
              repeat (refine And.intro (by omega) ?_)
              refine CodeJ.drawZ (.d 11 <| .qs [0, 1, 2, 3, 4, 5, 6, 7, 8, 9] <| .p 10 <| .b (.l 12 [2] <| .nil)) (by kernel_rfl) (by kernel_rfl) (by simp) ?_
              simp (disch := omega) [hlt, lget_arcP, lget_q]
              repeat (refine And.intro (by omega) ?_)
              refine callV (pMul_ok _ _ (qok_of q1 (by omega)) (qok_of q2 (by omega))) (by simp) ?_
              simp
              repeat (refine And.intro (by omega) ?_)
              refine callS (pAdd_ok _ _ (qok_of q3 (by omega)) (qok_of q4 (by omega))) (by simp) ?_
              simp
              repeat (refine And.intro (by omega) ?_)
              refine CodeJ.drawZ (.d 15 <| .qs [0, 1, 2, 3, 4, 5, 6, 7, 8, 9, 10, 11, 12, 13] <| .p 14 <| .b (.l 16 [3] <| .nil)) (by kernel_rfl) (by kernel_rfl) (by simp) ?_
              simp (disch := omega) [hlt, lget_arcP, lget_q, ef]
              repeat (refine And.intro (by omega) ?_)
              refine callV (pAdd_ok _ _ (qok_of q1 (by omega)) (qok_of q5 (by omega))) (by simp) ?_
              simp
              repeat (refine And.intro (by omega) ?_)
              refine CodeJ.draw (.qs [0, 1, 2, 3, 4, 5, 6, 7, 8, 9] <| .l 10 [] <| .l 11 [3] <| .nil) (by kernel_rfl) (by kernel_rfl) (by simp) ?_
              simp (disch := omega) [hlt, lget_arcP, lget_q, et]
              repeat (refine And.intro (by omega) ?_)
              refine callS (pSub_ok _ _ (qok_of q7 (by omega)) (qok_of q6 (by omega))) (by simp) ?_
              rw [← er]
              simp
              repeat (refine And.intro (by omega) ?_)
              refine callS (sgnP (red (gt l i) p)) (by simp) ?_
              simp (disch := omega) [hlt]
              repeat (refine And.intro (by omega) ?_)
              refine CodeJ.draw (.qs [0, 1, 2, 3, 4, 5, 6, 7, 8, 9] <| .l 10 [] <| .qs [11] <| .nil) (by kernel_rfl) (by kernel_rfl) (by simp) ?_
              simp (disch := omega) [hlt, lget_arcP, lget_q]
              repeat (refine And.intro (by omega) ?_)
              refine callS (cmpP _ _ (qok_of q2 (by omega)) (qok_of q8 (by omega))) (by simp) ?_
              simp (disch := omega) [hlt, lget_q]
              repeat (refine And.intro (by omega) ?_)
              refine callS (sgnP (gt p.flow i)) (by simp) ?_
              simp (disch := omega) [w64]
              repeat (refine And.intro (by omega) ?_)
              repeat' (apply And.intro <;> intro _)
              all_goals first | exact noF hnn (fun h => h.s i hlt (hsl.2 (by grind))) | exact ⟨i + 1, ⟨by omega, step_lt hs (by rw [hsl]; grind)⟩, by omega, Le.syn (by simp (disch := omega) [leS, hC, w64, costv])⟩
            · obtain rfl : i = l.length := by omega
              have q3 := qw_costv hw hp.wf hwi.n l.length (Nat.le_refl _)
              simp
              repeat (refine And.intro (by omega) ?_)
              refine callS (cmpP _ _ (qok_of q3 (by omega)) (qok_of hp.wc (by omega))) (by simp) ?_
              simp
              repeat (refine And.intro (by omega) ?_)
              have hd' : ∀ v, v < n → dl l p.flow v l.length = gt k v := fun v hv => by rw [← hd, gt_outs hv]
              by_cases hc : costv l p.flow l.length = p.cost
              · rw [yesF hnn ⟨hwi, hpr, hd', hs, hc⟩]; simp [hc]
              · rw [noF hnn (fun h => hc h.c)]; simp [hc]
        · have : shipB n l k p = false := noF hnn (fun h => hd (ext_gt' (by simp [hkl]) fun v hv => by simp only [outs_len] at hv; rw [gt_outs hv]; exact h.d v hv))
          simp [hd, this]
      · rw [noF hnn (fun h => hpr h.pr)]
        exact ⟨fun _ => rfl, fun h => absurd (by omega) hpr⟩
    · rw [withB_no hwi, noF hnn (fun h => hwi h.w)]
      simp
end Go.Proofs

