/- What the program's functions of nets return: whether a plan shows that it is right. A text of the prover's own. -/
import Derived.Test.YtlkaaaoeemejoaaGreatDoorRBa
namespace Go.Proofs
open Go.Sv Go Go.Tb Go.Pl Go.Ut Go.Ne
set_option maxRecDepth 10000 in
theorem pArcs_ok (l : List ArcS) (h : SmA l) : PureF Tryz.prog 29 [.ro (l.map arcS)] (.tup [.ro (arcsQ l), .val (.bool (okA l))]) := by
  have hl := h.n
  refine pure_enter Tryz.func29 rfl (by simp) (fun C hC => ?_)
  simp
  refine CodeJ.nil 4 10 rfl ?_
  refine CodeJ.loopL (ι := Nat × List Arc) (fun ⟨i, xs⟩ => ⟨47, [(4, .view 0 0 xs.length), (11, .ro (l.map arcS)), (12, iv l.length), (13, iv i)], [some ⟨10, xs.map arcQ, false⟩]⟩)
    (fun ⟨i, xs⟩ => i ≤ l.length ∧ xs = (arcs l).take i ∧ ∀ k, k < i → (qrd 300 (gt l k).cap).2.1 = 0 ∧ (qrd 300 (gt l k).cost).2.1 = 0) (fun ⟨i, xs⟩ => l.length - i) (0, []) ?_ ?_ ?_
  · simp
  · simp [leS, hC]
  · rintro ⟨i, xs⟩ ⟨hi, hx, hk⟩
    have hxl : xs.length = i := by rw [hx]; simp; omega
    by_cases hlt : i < l.length
    · have hx' := arcs_take hlt
      rw [← hx] at hx'
      have s1 := h.cap i hlt
      have s2 := h.cost i hlt
      simp (disch := omega) [hlt, lget_arcS]
      repeat (refine And.intro (by omega) ?_)
      refine callS (pNumber_ok (gt l i).cap (by omega)) (by simp) ?_
      simp
      repeat (refine And.intro (by omega) ?_)
      refine callS (pNumber_ok (gt l i).cost (by omega)) (by simp) ?_
      by_cases hq : (qrd 300 (gt l i).cap).2.1 = 0
      · by_cases hq2 : (qrd 300 (gt l i).cost).2.1 = 0
        · simp (disch := omega) [hq, hq2, arcQ_mk, w64]
          repeat (refine And.intro (by omega) ?_)
          exact ⟨⟨by simp [hC], by omega⟩, i + 1, xs ++ [arcOf (gt l i)], ⟨by omega, hx'.symm, step_lt hk ⟨hq, hq2⟩⟩, by omega, Le.syn (by simp (disch := omega) [leS, hC, w64, arcOf])⟩
        · have := okA_false hlt (fun h => hq2 h.2)
          simp [hq, hq2, arcsQ, this]
      · have := okA_false hlt (fun h => hq h.1)
        simp [hq, arcsQ, this]
    · obtain rfl : i = l.length := by omega
      have := okA_true hk
      rw [List.take_of_length_le (by simp)] at hx
      simp [arcsQ, this, hx, List.take_of_length_le]
set_option maxRecDepth 10000 in
theorem qNetValid_ok (n : Int) (l : List Arc) (hl : l.length ≤ 1048576) : PureF Tryz.prog 86 [iv n, .ro (l.map arcQ)] (erV (netC n l)) := by
  refine pure_enter Tryz.func86 rfl (by simp) (fun C hC => ?_)
  simp
  by_cases h0 : n < 1 ∨ 60 < n ∨ 300 < l.length
  · rw [netC_2 h0, erV_2]
    exact ⟨fun c1 => ⟨fun c2 => ⟨fun _ => rfl, fun c3 => by omega⟩, fun _ => rfl⟩, fun _ => rfl⟩
  · refine ⟨fun c1 => ⟨fun c2 => ⟨fun c3 => by omega, fun c3 => ?_⟩, fun _ => by omega⟩, fun _ => by omega⟩
    refine CodeJ.loopL (ι := Nat) (fun i => ⟨53, [(0, iv n), (19, .ro (l.map arcQ)), (20, iv l.length), (21, iv i)], []⟩)
      (fun i => i ≤ l.length ∧ ∀ k, k < i → ¬ bad n (gt l k)) (fun i => l.length - i) 0 ?_ ?_ ?_
    · simp
    · simp [leS, hC]
    · rintro i ⟨hi, hk⟩
      by_cases hlt : i < l.length
      · have e4 := fun hb : bad n (gt l i) => netC_4 h0 hlt hb
        simp (disch := omega) [hlt, lget_arcQ]
        repeat (refine And.intro (by omega) ?_)
        by_cases hb : (gt l i).f < 0 ∨ n ≤ (gt l i).f ∨ (gt l i).t < 0 ∨ n ≤ (gt l i).t
        · rw [e4 (by unfold bad; grind), erV_4]
          repeat' (apply And.intro <;> intro _)
          all_goals first | rfl | (exfalso; omega)
        · have b1 : ¬ (gt l i).f < 0 := by omega
          have b2 : ¬ n ≤ (gt l i).f := by omega
          have b3 : ¬ (gt l i).t < 0 := by omega
          have b4 : ¬ n ≤ (gt l i).t := by omega
          have b1' : 0 ≤ (gt l i).f := by omega
          have b2' : (gt l i).f < n := by omega
          have b3' : 0 ≤ (gt l i).t := by omega
          have b4' : (gt l i).t < n := by omega
          simp [b1, b2, b3, b4, b1', b2', b3', b4']
          refine callS (sgnQ (gt l i).cap) (by simp) ?_
          simp (disch := omega) [w64]
          repeat (refine And.intro (by omega) ?_)
          refine ⟨fun h => ?_, fun h => ⟨i + 1, ⟨by omega, step_lt hk (by unfold bad; grind)⟩, by omega, Le.syn (by simp (disch := omega) [leS, hC, w64])⟩⟩
          rw [e4 (by unfold bad; grind), erV_4]
      · obtain rfl : i = l.length := by omega
        simp [netC_0 h0 hk, erV_0]
theorem qKept_ok (n : Nat) (l : List Arc) (hn : Net n l) (hw : ArcW l) (k : List Rat) (hk : Wd 2200 k) (hkl : k.length = n) (flow : List Rat) (hf : Wd 2200 flow) (hfn : flow.length ≤ 1048576) :
    PureF Tryz.prog 87 [iv n, .ro (l.map arcQ), .ro (k.map rsv), .ro (flow.map rsv)] (.val (.bool (keptB n l k flow))) := by
  have hl := hw.n
  have n2 := hn.n2
  have m := hn.m
  refine pure_enter Tryz.func87 rfl (by simp) (fun C hC => ?_)
  simp
  repeat (refine And.intro (by omega) ?_)
  by_cases hfl : flow.length = l.length
  · refine ⟨fun _ => ⟨fun h => absurd (by omega) h, fun _ => ⟨by omega, ?_⟩⟩, fun h => absurd (by omega) h⟩
    refine CodeJ.loopL (ι := Nat) (fun i => ⟨89, [(3, .ro (flow.map rsv)), (9, .view 0 0 n), (27, .ro (l.map arcQ)), (28, iv l.length), (29, iv i)], [some ⟨4, (lefts n k l flow i).map rsv, false⟩]⟩)
      (fun i => i ≤ l.length ∧ ∀ j, j < i → 0 ≤ gt flow j ∧ gt flow j ≤ (gt l j).cap) (fun i => l.length - i) 0 ?_ ?_ ?_
    · simp
    · simp [leS, hC, lefts_zero hkl, hkl]
    · rintro i ⟨hi, hs⟩
      by_cases hlt : i < l.length
      · obtain ⟨f, t, ef, et, hf', ht⟩ := hn.a i hlt
        have q0 := hf i (by omega)
        have q8 := hw.cap i hlt
        have q1 := qw_sub (hk f (by omega)) (qw_dl hf hfl f i hi)
        have q2 := qw_sub (hk t (by omega)) (qw_dl1 hf hfl t hlt (qw_dl hf hfl t i hi))
        have e1 : lget ((lefts n k l flow i).map rsv) f = rsv (gt k f - dl l flow f i) := by rw [lget_r (by simpa using hf'), gt_lefts hf']
        have e2 : lget ((lefts1 n k l flow i).map rsv) t = rsv (gt k t - (dl l flow t i + if (gt l i).f.toNat = t then gt flow i else 0)) := by rw [lget_r (by simpa using ht), gt_lefts1 ht]
        have e3 := lefts_set (k := k) (flow := flow) ef hf'
        have e4 := lefts1_set (k := k) (flow := flow) et ht
        simp (disch := omega) [hlt, lget_arcQ]
        repeat (refine And.intro (by omega) ?_)
        refine CodeJ.draw (.qs [0, 1, 2, 3] <| .l 4 [] <| .qs [5, 6, 7, 8, 9, 10, 11, 12] <| .l 13 [] <| .qs [14, 15] <| .nil) (by kernel_rfl) (by kernel_rfl) (by simp) ?_
        simp (disch := omega) [hlt, lget_r, hfl]
        repeat (refine And.intro (by omega) ?_)
        refine callS (sgnQ (gt flow i)) (by simp) ?_
        simp
        repeat (refine And.intro (by omega) ?_)
        by_cases c1 : gt flow i < 0
        · simp [c1, keptB_no (n := n) (k := k) (fun h : Kept n l k flow => by have := h.1.a i hlt; grind)]
        · simp (disch := omega) [c1, hlt, lget_r, hfl]
          repeat (refine And.intro (by omega) ?_)
          refine callS (cmpQ _ _ (qok_of q0 (by omega)) (qok_of q8 (by omega))) (by simp) ?_
          simp
          repeat (refine And.intro (by omega) ?_)
          by_cases c2 : (gt l i).cap < gt flow i
          · simp [c2, keptB_no (n := n) (k := k) (fun h : Kept n l k flow => by have := h.1.a i hlt; grind)]
          · simp [c2]
            refine CodeJ.draw (.qs [0, 1, 2, 3, 4, 5, 6, 7, 8, 9, 10, 11] <| .l 12 [] <| .qs [13] <| .l 14 [0] <| .nil) (by kernel_rfl) (by kernel_rfl) (by simp) ?_
            simp (disch := omega) [hlt, lget_r, ef, e1, hfl]
            repeat (refine And.intro (by omega) ?_)
            refine callS (qSub_ok _ _ (qok_of q1 (by omega)) (qok_of q0 (by omega))) (by simp) ?_
            simp (disch := omega) [hlt, ef, e1, lset_eq, r_set, e3, hfl, -List.map_set]
            repeat (refine And.intro (by omega) ?_)
            refine CodeJ.draw (.qs [0, 1, 2, 3, 4, 5, 6, 7, 8, 9, 10, 11] <| .l 12 [] <| .qs [13] <| .l 14 [0] <| .nil) (by kernel_rfl) (by kernel_rfl) (by simp) ?_
            simp (disch := omega) [hlt, lget_r, et, e2, hfl]
            repeat (refine And.intro (by omega) ?_)
            refine callS (qAdd_ok _ _ (qok_of q2 (by omega)) (qok_of q0 (by omega))) (by simp) ?_
            simp (disch := omega) [hlt, et, e2, lset_eq, r_set, e4, hfl, w64, -List.map_set]
            repeat (refine And.intro (by omega) ?_)
            exact ⟨i + 1, ⟨by omega, step_lt hs (by grind)⟩, by omega, Le.syn (by simp (disch := omega) [leS, hC, w64])⟩
      · obtain rfl : i = l.length := by omega
        have hwi : Within l flow := ⟨hfl, hs⟩
        simp
        repeat (refine And.intro (by omega) ?_)
        refine CodeJ.loopL (ι := Nat) (fun v => ⟨89, [(79, .view 0 0 n), (80, iv n), (81, iv v)], [some ⟨4, (lefts n k l flow l.length).map rsv, false⟩]⟩)
          (fun v => v ≤ n ∧ ∀ u, u < v → dl l flow u l.length = gt k u) (fun v => n - v) 0 ?_ ?_ ?_
        · simp
        · simp [leS, hC]
        · rintro v ⟨hv, hd⟩
          by_cases hvt : v < n
          · have e1 : lget ((lefts n k l flow l.length).map rsv) v = rsv (gt k v - dl l flow v l.length) := by rw [lget_r (by simpa using hvt), gt_lefts hvt]
            simp (disch := omega) [hvt, e1]
            repeat (refine And.intro (by omega) ?_)
            refine callS (sgnQ (gt k v - dl l flow v l.length)) (by simp) ?_
            simp (disch := omega) [w64]
            repeat (refine And.intro (by omega) ?_)
            refine ⟨fun h => ?_, fun h => ⟨v + 1, ⟨by omega, step_lt hd (by grind)⟩, by omega, Le.syn (by simp (disch := omega) [leS, hC, w64])⟩⟩
            exact keptB_no (fun h' : Kept n l k flow => by have := h'.2 v hvt; grind)
          · obtain rfl : n = v := by omega
            simp [keptB_yes ⟨hwi, hd⟩]
  · rw [keptB_no (fun h' : Kept n l k flow => hfl h'.1.n)]
    exact ⟨fun h => absurd (by omega) hfl, fun h => rfl⟩
/-- a net that is none -/
theorem qCheckE_ok (n : Int) (l : List Arc) (hl : l.length ≤ 1048576) (k : List Rat) (p : Ship) (h : netC n l ≠ 0) : PureF Tryz.prog 31 [iv n, .ro (l.map arcQ), .ro (k.map rsv), .rop (shipQ p) 0] (.tup [.val (.bool false), erV (netC n l)]) := by
  have g := qNetValid_ok n l hl
  refine pure_enter Tryz.func31 rfl (by simp) (fun C hC => ?_)
  simp
  refine callS (g) (by simp) ?_
  rcases netC_le n l with e | e | e
  · exact absurd e h
  · rw [e, erV_2]; simp
  · rw [e, erV_4]; simp
/-- as many supplies as nodes are wanted -/
theorem qCheckS_ok (n : Int) (l : List Arc) (hl : l.length ≤ 1048576) (k : List Rat) (p : Ship) (h : netC n l = 0) (hk : (k.length : Int) ≠ n) : PureF Tryz.prog 31 [iv n, .ro (l.map arcQ), .ro (k.map rsv), .rop (shipQ p) 0] (.tup [.val (.bool false), erV 4]) := by
  have g := qNetValid_ok n l hl
  rw [h, erV_0] at g
  refine pure_enter Tryz.func31 rfl (by simp) (fun C hC => ?_)
  simp
  refine callS (g) (by simp) ?_
  simp [hk, erV_4]
  refine CodeJ.draw (.qs [0, 1, 2] <| .nil) (by kernel_rfl) (by kernel_rfl) (by simp) ?_
  simp
set_option maxRecDepth 10000 in
theorem qCheck_ok (n : Nat) (l : List Arc) (hc : netC n l = 0) (hw : ArcW l) (k : List Rat) (hk : Wd 2200 k) (hkl : k.length = n) (p : Ship) (hp : ShipW p) : PureF Tryz.prog 31 [iv n, .ro (l.map arcQ), .ro (k.map rsv), .rop (shipQ p) 0] (.tup [.val (.bool (shipB n l k p)), .val .nilIface]) := by
  have hl := hw.n
  have g := qNetValid_ok n l hl
  rw [hc, erV_0] at g
  have hn : Net n l := by obtain ⟨m, e, h⟩ := net_of hc; obtain rfl : m = n := by omega
                          exact h
  have n2 := hn.n2
  have m := hn.m
  have p1 := hp.fn
  have p2 := hp.pn
  have p3 := hp.sn
  refine pure_enter Tryz.func31 rfl (by simp) (fun C hC => ?_)
  simp
  refine callS (g) (by simp) ?_
  simp [hkl]
  cases hnn : p.none with
  | true =>
    simp
    repeat (refine And.intro (by omega) ?_)
    by_cases hs : p.side.length = n
    · refine ⟨fun h => absurd (by omega) h, fun _ => ?_⟩
      refine CodeJ.le (Le.nl _) ?_
      simp [nlS]
      refine CodeJ.loopL (ι := Nat) (fun v => ⟨196, [(1, .ro (l.map arcQ)), (2, .ro (k.map rsv)), (3, .rop (shipQ p) 0), (11, .ptr 0 0 0), (12, .ptr 1 0 0), (50, .ro (p.side.map bov)), (51, iv n), (52, iv v)], [some ⟨4, [rsv (hasv k p.side v)], false⟩, some ⟨4, [rsv 0], false⟩]⟩)
        (fun v => v ≤ n) (fun v => n - v) 0 ?_ ?_ ?_
      · simp
      · simp [leS, hC, hasv, hs, rsv0]
      · rintro v hv
        by_cases hvt : v < n
        · have q1 := qw_hasv hk p.side v (by omega)
          have q2 := hk v (by omega)
          cases b : gt p.side v with
          | false =>
            have e : hasv k p.side (v + 1) = hasv k p.side v := by simp [hasv, b]
            simp (disch := omega) [hvt, lget_bov, b, hs, w64]
            repeat (refine And.intro (by omega) ?_)
            exact ⟨v + 1, by omega, by omega, Le.syn (by simp (disch := omega) [leS, hC, w64, e])⟩
          | true =>
            have e : hasv k p.side (v + 1) = hasv k p.side v + gt k v := by simp [hasv, b]
            simp (disch := omega) [hvt, lget_bov, b, hs]
            repeat (refine And.intro (by omega) ?_)
            refine CodeJ.draw (.qs [0, 1, 2, 3, 4] <| .l 5 [] <| .l 6 [0] <| .nil) (by kernel_rfl) (by kernel_rfl) (by simp) ?_
            simp (disch := omega) [hvt, lget_r, hkl]
            repeat (refine And.intro (by omega) ?_)
            refine callS (qAdd_ok _ _ (qok_of q1 (by omega)) (qok_of q2 (by omega))) (by simp) ?_
            simp (disch := omega) [w64]
            repeat (refine And.intro (by omega) ?_)
            exact ⟨v + 1, by omega, by omega, Le.syn (by simp (disch := omega) [leS, hC, w64, e])⟩
        · obtain rfl : n = v := by omega
          have q1 := qw_hasv hk p.side n (by omega)
          have q2 := qw_thr hw p.side l.length (by omega)
          simp
          repeat (refine And.intro (by omega) ?_)
          refine CodeJ.loopL (ι := Nat) (fun i => ⟨196, [(3, .rop (shipQ p) 0), (11, .ptr 0 0 0), (12, .ptr 1 0 0), (65, .ro (l.map arcQ)), (66, iv l.length), (67, iv i)], [some ⟨4, [rsv (hasv k p.side n)], false⟩, some ⟨4, [rsv (thr l p.side i)], false⟩]⟩)
            (fun i => i ≤ l.length) (fun i => l.length - i) 0 ?_ ?_ ?_
          · simp
          · simp [leS, hC, thr]
          · rintro i hi
            by_cases hlt : i < l.length
            · obtain ⟨f, t, ef, et, hf, ht⟩ := hn.a i hlt
              have q3 := qw_thr hw p.side i hi
              have q4 := hw.cap i hlt
              have ov : over l p.side i = (gt p.side f && !gt p.side t) := by simp [over, ef, et]
              simp (disch := omega) [hlt, lget_arcQ]
              repeat (refine And.intro (by omega) ?_)
              refine CodeJ.draw (.qs [0, 1, 2, 3, 4, 5, 6, 7, 8, 9, 10, 11, 12, 13, 14, 15, 16, 17, 18] <| .nil) (by kernel_rfl) (by kernel_rfl) (by simp) ?_
              cases b1 : gt p.side f with
              | false =>
                have e : thr l p.side (i + 1) = thr l p.side i := by simp [thr, ov, b1]
                simp (disch := omega) [hlt, lget_arcQ, lget_bov, ef, et, b1, hs, w64]
                repeat (refine And.intro (by omega) ?_)
                exact ⟨i + 1, by omega, by omega, Le.syn (by simp (disch := omega) [leS, hC, w64, e])⟩
              | true =>
                cases b2 : gt p.side t with
                | true =>
                  have e : thr l p.side (i + 1) = thr l p.side i := by simp [thr, ov, b1, b2]
                  simp (disch := omega) [hlt, lget_arcQ, lget_bov, ef, et, b1, b2, hs, w64]
                  repeat (refine And.intro (by omega) ?_)
                  exact ⟨i + 1, by omega, by omega, Le.syn (by simp (disch := omega) [leS, hC, w64, e])⟩
                | false =>
                  have e : thr l p.side (i + 1) = thr l p.side i + (gt l i).cap := by simp [thr, ov, b1, b2]
                  simp (disch := omega) [hlt, lget_arcQ, lget_bov, ef, et, b1, b2, hs]
                  repeat (refine And.intro (by omega) ?_)
                  refine callS (qAdd_ok _ _ (qok_of q3 (by omega)) (qok_of q4 (by omega))) (by simp) ?_
                  simp (disch := omega) [w64]
                  repeat (refine And.intro (by omega) ?_)
                  exact ⟨i + 1, by omega, by omega, Le.syn (by simp (disch := omega) [leS, hC, w64, e])⟩
            · obtain rfl : i = l.length := by omega
              simp
              repeat (refine And.intro (by omega) ?_)
              refine callS (cmpQ _ _ (qok_of q1 (by omega)) (qok_of q2 (by omega))) (by simp) ?_
              simp
              repeat (refine And.intro (by omega) ?_)
              by_cases hc : thr l p.side l.length < hasv k p.side n
              · rw [yesN hnn ⟨hs, hc⟩]; simp [hc]
              · rw [noN hnn (fun h => hc h.c)]; simp [hc]
    · rw [noN hnn (fun h => hs h.sn)]
      exact ⟨fun _ => rfl, fun h => absurd (by omega) hs⟩
  | false =>
    simp
    repeat (refine And.intro (by omega) ?_)
    refine callS (qKept_ok n l hn hw k hk hkl p.flow hp.wf hp.fn) (by simp) ?_
    simp
    repeat (refine And.intro (by omega) ?_)
    by_cases hkp : Kept n l k p.flow
    · rw [keptB_yes hkp]
      simp
      repeat (refine And.intro (by omega) ?_)
      have hwi := hkp.1
      have hfl := hwi.n
      by_cases hpr : p.prices.length = n
      · refine ⟨fun h => absurd (by omega) h, fun _ => ?_⟩
        refine CodeJ.le (Le.nl _) ?_
        simp [nlS]
        refine CodeJ.loopL (ι := Nat) (fun i => ⟨196, [(3, .rop (shipQ p) 0), (17, .ptr 0 0 0), (117, .ro (l.map arcQ)), (118, iv l.length), (119, iv i)], [some ⟨4, [rsv (costv l p.flow i)], false⟩]⟩)
            (fun i => i ≤ l.length ∧ ∀ j, j < i → ¬ slack l p j) (fun i => l.length - i) 0 ?_ ?_ ?_
        · simp
        · simp [leS, hC, costv, rsv0]
        · rintro i ⟨hi, hs⟩
          by_cases hlt : i < l.length
          · obtain ⟨f, t, ef, et, hf, ht⟩ := hn.a i hlt
            have q1 := hw.cost i hlt
            have q2 := hp.wf i (by omega)
            have q3 := qw_costv hw hp.wf hwi.n i hi
            have q4 := qw_mul q1 q2 (by omega)
            have q5 := hp.wp f (by omega)
            have q6 := hp.wp t (by omega)
            have q7 := qw_add q1 q5
            have q8 := hw.cap i hlt
            have er : red (gt l i) p = (gt l i).cost + gt p.prices f - gt p.prices t := by simp [red, ef, et]
            have hsl : slack l p i ↔ (red (gt l i) p < 0 ∧ gt p.flow i < (gt l i).cap) ∨ (0 < red (gt l i) p ∧ 0 < gt p.flow i) := Iff.rfl
            simp (disch := omega) [hlt, lget_arcQ]
            repeat (refine And.intro (by omega) ?_)
            refine CodeJ.draw (.qs [0, 1, 2, 3, 4, 5, 6, 7, 8, 9] <| .l 10 [] <| .l 11 [] <| .l 12 [0] <| .nil) (by kernel_rfl) (by kernel_rfl) (by simp) ?_
            simp (disch := omega) [hlt, lget_r, hfl]
            repeat (refine And.intro (by omega) ?_)
            refine callS (qMul_ok _ _ (qok_of q1 (by omega)) (qok_of q2 (by omega))) (by simp) ?_
            simp
            repeat (refine And.intro (by omega) ?_)
            refine callS (qAdd_ok _ _ (qok_of q3 (by omega)) (qok_of q4 (by omega))) (by simp) ?_
            simp
            repeat (refine And.intro (by omega) ?_)
            refine CodeJ.drawZ (.d 20 <| .qs [0, 1, 2, 3, 4, 5, 6, 7, 8, 9, 11, 12, 13, 14, 15, 16, 17, 18] <| .p 10 <| .p 19 <| .b (.l 21 [2] <| .nil)) (by kernel_rfl) (by kernel_rfl) (by simp) ?_
            simp (disch := omega) [hlt, lget_r, ef, et, hpr]
            repeat (refine And.intro (by omega) ?_)
            refine callV (qAdd_ok _ _ (qok_of q1 (by omega)) (qok_of q5 (by omega))) (by simp) ?_
            simp
            repeat (refine And.intro (by omega) ?_)
            refine callV (qSub_ok _ _ (qok_of q7 (by omega)) (qok_of q6 (by omega))) (by simp) ?_
            rw [← er]
            simp
            repeat (refine And.intro (by omega) ?_)
            refine CodeJ.draw (.qs [0] <| .l 1 [] <| .qs [2, 3, 4, 5, 6, 7, 8, 9, 10, 11, 12] <| .l 13 [] <| .qs [14, 15, 16, 17] <| .l 18 [] <| .qs [19, 20, 21, 22, 23, 24, 25, 26, 27] <| .l 28 [] <| .qs [29, 30, 31] <| .nil) (by kernel_rfl) (by kernel_rfl) (by simp) ?_
            simp
            repeat (refine And.intro (by omega) ?_)
            refine callS (sgnQ (red (gt l i) p)) (by simp) ?_
            by_cases c1 : red (gt l i) p < 0
            · have c3 : ¬ 0 < red (gt l i) p := by grind
              simp (disch := omega) [c1, hlt, lget_r, hfl]
              repeat (refine And.intro (by omega) ?_)
              refine callS (cmpQ _ _ (qok_of q2 (by omega)) (qok_of q8 (by omega))) (by simp) ?_
              by_cases c2 : gt p.flow i < (gt l i).cap
              · simp [c2, noF hnn (fun h => h.s i hlt (hsl.2 (.inl ⟨c1, c2⟩)))]
              · simp [c2]
                repeat (refine And.intro (by omega) ?_)
                refine callS (sgnQ (red (gt l i) p)) (by simp) ?_
                simp (disch := omega) [c3, w64]
                repeat (refine And.intro (by omega) ?_)
                exact ⟨i + 1, ⟨by omega, step_lt hs (by rw [hsl]; grind)⟩, by omega, Le.syn (by simp (disch := omega) [leS, hC, w64, costv])⟩
            · simp [c1]
              repeat (refine And.intro (by omega) ?_)
              refine callS (sgnQ (red (gt l i) p)) (by simp) ?_
              by_cases c3 : 0 < red (gt l i) p
              · simp (disch := omega) [c3, hlt, lget_r, hfl]
                repeat (refine And.intro (by omega) ?_)
                refine callS (sgnQ (gt p.flow i)) (by simp) ?_
                by_cases c4 : 0 < gt p.flow i
                · simp [c4, noF hnn (fun h => h.s i hlt (hsl.2 (.inr ⟨c3, c4⟩)))]
                · simp (disch := omega) [c4, w64]
                  repeat (refine And.intro (by omega) ?_)
                  exact ⟨i + 1, ⟨by omega, step_lt hs (by rw [hsl]; grind)⟩, by omega, Le.syn (by simp (disch := omega) [leS, hC, w64, costv])⟩
              · simp (disch := omega) [c3, w64]
                repeat (refine And.intro (by omega) ?_)
                exact ⟨i + 1, ⟨by omega, step_lt hs (by rw [hsl]; grind)⟩, by omega, Le.syn (by simp (disch := omega) [leS, hC, w64, costv])⟩
          · obtain rfl : i = l.length := by omega
            have q3 := qw_costv hw hp.wf hwi.n l.length (Nat.le_refl _)
            simp
            repeat (refine And.intro (by omega) ?_)
            refine CodeJ.draw (.qs [0, 1, 2, 3, 4] <| .l 5 [] <| .qs [6, 7, 8] <| .nil) (by kernel_rfl) (by kernel_rfl) (by simp) ?_
            simp
            repeat (refine And.intro (by omega) ?_)
            refine callS (cmpQ _ _ (qok_of q3 (by omega)) (qok_of hp.wc (by omega))) (by simp) ?_
            simp
            repeat (refine And.intro (by omega) ?_)
            by_cases hc : costv l p.flow l.length = p.cost
            · rw [yesF hnn ⟨hwi, hpr, hkp.2, hs, hc⟩]; simp [hc]
            · rw [noF hnn (fun h => hc h.c)]; simp [hc]
      · rw [noF hnn (fun h => hpr h.pr)]
        exact ⟨fun _ => rfl, fun h => absurd (by omega) hpr⟩
    · rw [keptB_no hkp, noF hnn (fun h => hkp ⟨h.w, h.d⟩)]
      simp
end Go.Proofs

