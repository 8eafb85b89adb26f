/- What is left of all lists: the document's way. What is left of all lists: the document's way, whole. What is left of all lists: the document's way, whole. A text of the prover's own. -/
import Derived.Test.YtadkomdooleipaaDoorMAx
import Derived.Test.YtadkomdooleipaaDoorMAu
namespace Go.Fn
open Go Go.Sv Go.Pl Go.Proofs Go.Tb Go.Ut
theorem minmax_bd {a l h : Int} (ha : Bd8 a) (hl : Bd8 l) (hh : Bd8 h) : (-10000000000000000 ≤ a * l ∧ a * l ≤ 10000000000000000) ∧ (-10000000000000000 ≤ a * h ∧ a * h ≤ 10000000000000000) := ⟨mul_bd ha hl, mul_bd ha hh⟩
theorem lowS_bd {c : Con} {L : Lf} {i n : Nat} (h : ∀ k, k < n → Bd8 (gt c.nums k) ∧ Bd8 (low (lk c L k)) ∧ Bd8 (high (lk c L k))) : ∀ k, k ≤ n → (-(10000000000000000 * (k : Int)) ≤ lowS c L i k ∧ lowS c L i k ≤ 10000000000000000 * k) ∧ (-(10000000000000000 * (k : Int)) ≤ highS c L i k ∧ highS c L i k ≤ 10000000000000000 * k)
  | 0, _ => by simp [lowS, highS, sumN]
  | k + 1, hk => by
    have := lowS_bd (i := i) h k (by omega)
    have := minmax_bd (h k (by omega)).1 (h k (by omega)).2.1 (h k (by omega)).2.2
    simp only [lowS, highS, sumN] at *
    split <;> omega
theorem left_lok {p : Puz} (hp : PuzOK p) {L : Lf} (h : Left p p.values L) (ne : NE L) : LOK p.values.length L where
  len := h.len
  n6 := hp.few.v
  ne := ne
  asc := h.asc hp.asc
  l12 := fun k hk => Nat.le_trans (h.sub k hk).length_le (hp.few.l _ (gt_mem hk))
  bd := fun k hk v hv => hp.val k hk v ((h.sub k hk).subset hv)
/-- what goes, or nothing -/
def GoesQ (c : Con) (L : Lf) (y : SV) : Prop := (∃ i v, i < c.vars.length ∧ v ∈ lk c L i ∧ ¬ May c L i v ∧ y = .tup [.val (.int .i64 (gt c.vars i)), .val (.int .i64 v), .val (.bool true)]) ∨ (CnsC c L ∧ y = .tup [.val (.int .i64 0), .val (.int .i64 0), .val (.bool false)])
end Go.Fn
namespace Go.Proofs
open Go.Sv Go Go.Tb Go.Pl Go.Ut Go.Fn
set_option maxRecDepth 10000 in
set_option maxHeartbeats 2000000 in
theorem rMay_ok {n : Nat} {c : Con} (hc : ConOK n c) (hf : FewC c) {L : Lf} (hL : LOK n L) (i : Nat) (hi : i < c.vars.length) (v : Int) (hv : Bd8 v) : PureC Tryd.prog 38 [conV c, .ro (L.map ilv), iv i, iv v] (TB (May c L i v)) := by
  have h8 := hc.vl
  refine pure_enterJ Tryd.func38 rfl (by simp) (fun C hC => ?_)
  refine CodeJ.seqI (CodeJ.regionI (OpsJ.go ?_))
  simp
  refine CodeJ.frz 0 rfl (by simp) ?_
  simp [frzS, tset]
  refine CodeJ.go ?_
  simp
  refine ⟨fun k1 => ?_, fun k1 => ⟨fun k2 => ?_, fun k2 => ⟨fun k3 => ?_, fun k3 => ⟨fun k4 => ?_, fun k4 => ?_⟩⟩⟩⟩
  · have pm : May c L i v ↔ Parts (PartM c L i v) c.vars.length := by unfold May; rw [if_pos k1]
    refine callP (rParts_ok hc hL i hi v) (SubL_self _ _ (by simp)) (fun y hy => ?_)
    obtain ⟨b, rfl, hb⟩ := hy
    simp
    exact tb_mk (hb.trans pm.symm)
  · have pm : May c L i v ↔ lowS c L i c.vars.length ≤ c.limit - gt c.nums i * v ∧ c.limit - gt c.nums i * v ≤ highS c L i c.vars.length := by unfold May; rw [if_neg (by omega), if_pos k2]
    have n2 := hc.k2 k2
    have bd : ∀ k, k < c.vars.length → Bd8 (gt c.nums k) ∧ Bd8 (low (lk c L k)) ∧ Bd8 (high (lk c L k)) := fun k hk => by
      obtain ⟨d1, d2, d3, d4, d5, d6⟩ := hL.at hc hk
      exact ⟨hc.nu k (by omega), low_bd d6 d3⟩
    refine CodeJ.loop (ι := Nat) (fun k => ⟨116, [(1, .ro (L.map ilv)), (2, iv i), (3, iv v), (4, .rop (conV c) 0), (9, iv (lowS c L i k)), (10, iv (highS c L i k)), (11, iv k)], []⟩)
      (fun k => k ≤ c.vars.length) (fun k => c.vars.length - k) 0 (by omega) ?_ ?_
    · simp [leS, hC, lowS, highS, sumN]
    rintro k hk
    by_cases hkl : k < c.vars.length
    · obtain ⟨d1, d2, d3, d4, d5, d6⟩ := hL.at hc hkl
      have vk := lget_iv (l := c.vars) hkl
      have nk := lget_iv (l := c.nums) (i := k) (by omega)
      have ekn : k < c.nums.length := by omega
      have lh := lget_iv (l := lk c L k) (i := (lk c L k).length - 1) (by omega)
      have ll := lget_iv (l := lk c L k) (i := 0) d3
      have ehi : gt (lk c L k) ((lk c L k).length - 1) = high (lk c L k) := rfl
      have elo : gt (lk c L k) 0 = low (lk c L k) := rfl
      rw [ehi] at lh
      rw [elo] at ll
      have e1 : lowS c L i (k + 1) = lowS c L i k + if k = i then 0 else min (gt c.nums k * low (lk c L k)) (gt c.nums k * high (lk c L k)) := rfl
      have e2 : highS c L i (k + 1) = highS c L i k + if k = i then 0 else max (gt c.nums k * low (lk c L k)) (gt c.nums k * high (lk c L k)) := rfl
      have bS := lowS_bd (i := i) bd k (by omega)
      have bm := minmax_bd (bd k hkl).1 (bd k hkl).2.1 (bd k hkl).2.2
      generalize lk c L k = l at *
      generalize high l = hg at *
      generalize low l = lo at *
      generalize gt c.nums k = a at *
      have e8 : ((l.length : Int) - 1).toNat = l.length - 1 := by omega
      by_cases c1 : k = i
      · subst c1
        rw [if_pos rfl] at e1 e2
        simp (disch := omega) [hkl, w64]
        repeat (refine And.intro (by omega) ?_)
        exact ⟨k + 1, by omega, by omega, by simp (disch := omega) [leS, hC, w64, e1, e2]⟩
      · have c1' : ¬ (k : Int) = i := by omega
        rw [if_neg c1] at e1 e2
        generalize hx : a * lo = x at *
        generalize hy : a * hg = y at *
        simp (disch := omega) [hkl, c1, c1', vk, d1, d5]
        repeat (refine And.intro (by omega) ?_)
        refine CodeJ.draw (.qs [0, 1, 2, 3, 4, 5, 6, 7, 8, 9] <| .nil) (by kernel_rfl) (by kernel_rfl) (by simp) ?_
        simp (disch := omega) [hkl, nk, ll, d3, ekn, hx, w64]
        repeat (refine And.intro (by omega) ?_)
        refine CodeJ.draw (.qs [0, 1, 2, 3, 4, 5, 6, 7, 8, 9, 10, 11, 12] <| .nil) (by kernel_rfl) (by kernel_rfl) (by simp) ?_
        simp (disch := omega) [hkl, nk, lh, e8, d3, ekn, hy, w64]
        repeat (refine And.intro (by omega) ?_)
        refine ⟨fun q => ?_, fun q => ?_⟩
        · exact ⟨k + 1, by omega, by omega, by simp (disch := omega) [leS, hC, w64, e1, e2]; omega⟩
        · exact ⟨k + 1, by omega, by omega, by simp (disch := omega) [leS, hC, w64, e1, e2]; omega⟩
    · obtain rfl : k = c.vars.length := by omega
      have ni := lget_iv (l := c.nums) (i := i) (by omega)
      have ein : i < c.nums.length := by omega
      have bS := lowS_bd (i := i) bd c.vars.length (by omega)
      have bm := mul_bd (bd i hi).1 hv
      have bl := hc.li
      simp
      refine CodeJ.draw (.qs [0, 1, 2, 3, 4, 5, 6, 7, 8, 9, 10] <| .nil) (by kernel_rfl) (by kernel_rfl) (by simp) ?_
      generalize hx : gt c.nums i * v = x at *
      generalize lowS c L i c.vars.length = lo at *
      generalize highS c L i c.vars.length = hg at *
      simp (disch := omega) [ni, ein, hx, w64]
      repeat (refine And.intro (by omega) ?_)
      exact ⟨fun q => tb_mk (by rw [pm, decide_eq_true_eq]; exact ⟨fun h => ⟨q, h⟩, fun h => h.2⟩), fun q => tb_mk (by rw [pm]; exact ⟨fun h => (by cases h), fun h => absurd h.1 (by omega)⟩)⟩
  · have pm : May c L i v ↔ RowM c L i v := by unfold May; rw [if_neg (by omega), if_neg (by omega), if_pos k3]
    refine callP (rRowed_ok hc hf k3 hL i hi v) (SubL_self _ _ (by simp)) (fun y hy => ?_)
    obtain ⟨b, rfl, hb⟩ := hy
    simp
    exact tb_mk (hb.trans pm.symm)
  · have pm : May c L i v ↔ PlcM c L i v := by unfold May; rw [if_neg (by omega), if_neg (by omega), if_neg (by omega), if_pos k4]
    refine callP (rPlaced_ok hc k4 hL i hi v hv) (SubL_self _ _ (by simp)) (fun y hy => ?_)
    obtain ⟨b, rfl, hb⟩ := hy
    simp
    exact tb_mk (hb.trans pm.symm)
  · have pm : May c L i v ↔ ShrM c L i v := by unfold May; rw [if_neg (by omega), if_neg (by omega), if_neg (by omega), if_neg (by omega)]
    refine callP (rShared_ok hc (by have := hc.kd; omega) hL i hi v hv) (SubL_self _ _ (by simp)) (fun y hy => ?_)
    obtain ⟨b, rfl, hb⟩ := hy
    simp
    exact tb_mk (hb.trans pm.symm)
end Go.Proofs
namespace Go.Fn
open Go Go.Sv Go.Pl Go.Proofs Go.Tb Go.Ut
theorem lset_ilv (L : Lf) (k : Nat) (l : List Int) : lset (L.map ilv) k (.ro (l.map iv)) = (L.set k l).map ilv := by
  rw [lset_eq, List.map_set]; rfl
def neB (v w : Int) : Bool := decide (w ≠ v)
/-- what narrowing comes to -/
def NarQ (p : Puz) (y : SV) : Prop := ∃ (L : Lf) (ok : Bool), Nar p p.values L ok ∧ (ok = true → y = .tup [.ro (L.map ilv), .val (.bool true)]) ∧ (ok = false → y = .tup [.val (.slice none 0 0), .val (.bool false)])
def NarI (p : Puz) (L : Lf) (ag : Bool) : Prop := Left p p.values L ∧ (ag = false → NE L ∧ Cns p L)
def NarJ (p : Puz) (L : Lf) (i : Nat) (ag : Bool) (L' : Lf) : Prop := Left p p.values L' ∧ (ag = false → L' = L ∧ ∀ j, j < i → CnsC (gt p.cons j) L) ∧ (ag = true → size L' < size L)
end Go.Fn
namespace Go.Proofs
open Go.Sv Go Go.Tb Go.Pl Go.Ut Go.Fn
theorem goes_mk {c : Con} {L : Lf} {y : SV} {M : Tab} (hy : y.pure = true) (h : GoesQ c L y) : Sv.fin M y (GoesQ c L) := ⟨y, Sub_self M y hy, h⟩
set_option maxRecDepth 10000 in
set_option maxHeartbeats 1000000 in
theorem rGoes_ok {n : Nat} {c : Con} (hc : ConOK n c) (hf : FewC c) {L : Lf} (hL : LOK n L) : PureC Tryd.prog 23 [conV c, .ro (L.map ilv)] (GoesQ c L) := by
  have h8 := hc.vl
  refine pure_enterJ Tryd.func23 rfl (by simp) (fun C hC => ?_)
  refine CodeJ.seqI (CodeJ.regionI (OpsJ.go ?_))
  simp
  refine CodeJ.frz 0 rfl (by simp) ?_
  simp [frzS, tset]
  refine CodeJ.go ?_
  simp
  refine CodeJ.loop (ι := Nat) (fun i => ⟨51, [(1, .ro (L.map ilv)), (2, .rop (conV c) 0), (7, iv i)], []⟩)
    (fun i => i ≤ c.vars.length ∧ ∀ j, j < i → ∀ v ∈ lk c L j, May c L j v) (fun i => c.vars.length - i) 0 ?_ ?_ ?_
  · exact ⟨by omega, fun j hj => by omega⟩
  · simp [leS, hC]
  rintro i ⟨hi, hd⟩
  by_cases hlt : i < c.vars.length
  · obtain ⟨d1, d2, d3, d4, d5, d6⟩ := hL.at hc hlt
    have vi := lget_iv (l := c.vars) hlt
    have st := @step_lt (fun j => ∀ v ∈ lk c L j, May c L j v) i hd
    have gm := fun v hv => rMay_ok hc hf hL i hlt v (d6 v hv)
    have yes : ∀ v ∈ lk c L i, ¬ May c L i v → GoesQ c L (.tup [.val (.int .i64 (gt c.vars i)), .val (.int .i64 v), .val (.bool true)]) := fun v hv hm => .inl ⟨i, v, hlt, hv, hm, rfl⟩
    generalize hlk : lk c L i = l at *
    simp (disch := omega) [hlt, vi, d1, d5]
    repeat (refine And.intro (by omega) ?_)
    refine CodeJ.loop (ι := Nat) (fun k => ⟨51, [(1, .ro (L.map ilv)), (2, .rop (conV c) 0), (7, iv i), (8, ilv l), (9, iv k)], []⟩)
      (fun k => k ≤ l.length ∧ ∀ j, j < k → May c L i (gt l j)) (fun k => l.length - k) 0 ?_ ?_ ?_
    · exact ⟨by omega, fun j hj => by omega⟩
    · simp [leS, hC]
    rintro k ⟨hk, hm⟩
    by_cases hkl : k < l.length
    · have lv := lget_iv hkl
      have mm := gt_mem hkl
      have g := gm _ mm
      have yy := yes _ mm
      have sm := @step_lt (fun j => May c L i (gt l j)) k hm
      generalize gt l k = v at *
      simp (disch := omega) [hkl]
      repeat (refine And.intro (by omega) ?_)
      refine CodeJ.draw (.qs [0, 1, 2, 3, 4, 5, 6] <| .l 7 [] <| .qs [8] <| .nil) (by kernel_rfl) (by kernel_rfl) (by simp) ?_
      simp (disch := omega) [hkl, lv]
      repeat (refine And.intro (by omega) ?_)
      refine callP g (SubL_self _ _ (by simp)) (fun y hy => ?_)
      obtain ⟨b, rfl, hb⟩ := hy
      simp
      refine ⟨fun q => ?_, fun q => ?_⟩
      · refine CodeJ.draw (.qs [0, 1, 2, 3, 4, 5, 6, 7, 8, 9, 10, 11] <| .nil) (by kernel_rfl) (by kernel_rfl) (by simp) ?_
        simp (disch := omega) [hlt, vi, hkl, lv]
        repeat (refine And.intro (by omega) ?_)
        exact goes_mk rfl (yy fun h => by rw [hb.2 h] at q; cases q)
      · exact ⟨k + 1, ⟨by omega, sm (hb.1 q)⟩, by omega, by simp (disch := omega) [leS, hC, w64]⟩
    · obtain rfl : k = l.length := by omega
      simp
      refine ⟨i + 1, ⟨by omega, st fun v hv => ?_⟩, by omega, by simp (disch := omega) [leS, hC, w64]⟩
      obtain ⟨j, hj, rfl⟩ := mem_gt hv
      exact hm j hj
  · obtain rfl : i = c.vars.length := by omega
    simp
    exact goes_mk rfl (.inr ⟨hd, rfl⟩)
set_option maxRecDepth 10000 in
theorem rWithout_ok (L : Lf) (hl : L.length ≤ 1000) (k : Nat) (hk : k < L.length) (hkl : (gt L k).length ≤ 12) (v : Int) : PureF Tryd.prog 24 [.ro (L.map ilv), iv k, iv v] (.ro ((L.set k ((gt L k).filter (neB v))).map ilv)) := by
  have lk' := lget_ilv hk
  obtain ⟨L2, e2⟩ : ∃ L2, L.set k ((gt L k).filter (neB v)) = L2 := ⟨_, rfl⟩
  have l2 : L2.length = L.length := by rw [← e2]; simp
  rw [e2]
  refine pure_enterJ Tryd.func24 rfl (by simp) (fun C hC => ?_)
  refine CodeJ.wk ?_
  refine CodeJ.cutAt 4 (fun st => st = ⟨46, [(0, .ro (L.map ilv)), (1, iv k), (2, iv v), (7, .view 0 0 L.length), (8, .val (.slice none 0 0))], [some ⟨1, L.map ilv, false⟩]⟩) ?_ ?_
  · simp only [takeC_succ, takeC_zero]
    simp (disch := omega) [hk]
    repeat (refine And.intro (by omega) ?_)
    exact ⟨rfl, by simp [leF, Go.Sv.get], leM_self _, .inl rfl⟩
  rintro st rfl
  simp only [dropC_succ, dropC_zero]
  refine CodeJ.nil 8 1 rfl ?_
  simp
  refine CodeJ.cutAt 1 (fun st => st = ⟨46, [(1, iv k), (7, .view 0 0 L.length), (8, .view 1 0 ((gt L k).filter (neB v)).length)], [some ⟨1, L.map ilv, false⟩, some ⟨1, ((gt L k).filter (neB v)).map iv, false⟩]⟩) ?_ ?_
  · simp only [takeC_succ, takeC_zero]
    simp
    generalize gt L k = l at *
    refine CodeJ.loop (ι := Nat × List Int) (fun ⟨i, w⟩ => ⟨46, [(0, .ro (L.map ilv)), (1, iv k), (2, iv v), (7, .view 0 0 L.length), (8, .view 1 0 w.length), (9, iv i)], [some ⟨1, L.map ilv, false⟩, some ⟨1, w.map iv, false⟩]⟩)
      (fun ⟨i, w⟩ => i ≤ l.length ∧ w = (l.take i).filter (neB v)) (fun ⟨i, w⟩ => l.length - i) (0, []) ?_ ?_ ?_
    · simp
    · simp [leS, hC]
    rintro ⟨i, w⟩ ⟨hi, hw⟩
    have wl : w.length ≤ 12 := by
      have := List.length_filter_le (neB v) (l.take i)
      rw [← hw] at this
      simp at this; omega
    by_cases hlt : i < l.length
    · have lv := lget_iv hlt
      have ft : (l.take (i + 1)).filter (neB v) = if gt l i ≠ v then w ++ [gt l i] else w := by
        rw [take_gt hlt, List.filter_append, ← hw]
        by_cases e : gt l i = v <;> simp [e, neB]
      generalize gt l i = u at *
      simp (disch := omega) [hk, lk', hlt, lv]
      repeat (refine And.intro (by omega) ?_)
      refine ⟨fun q => ?_, fun q => ?_⟩
      · rw [if_pos q] at ft
        exact ⟨⟨by simp [hC], by omega⟩, i + 1, w ++ [u], ⟨by omega, ft.symm⟩, by omega, by simp (disch := omega) [leS, hC, w64]⟩
      · rw [if_neg (fun h => h q)] at ft
        exact ⟨i + 1, w, ⟨by omega, ft.symm⟩, by omega, by simp (disch := omega) [leS, hC, w64]⟩
    · obtain rfl : i = l.length := by omega
      rw [List.take_length] at hw
      subst hw
      simp (disch := omega) [hk, lk']
      repeat (refine And.intro (by omega) ?_)
      exact ⟨rfl, by simp [leF, Go.Sv.get], leM_self _, .inl rfl⟩
  rintro st rfl
  simp only [dropC_succ, dropC_zero]
  generalize ((gt L k).filter (neB v)) = w at *
  refine CodeJ.frz 1 rfl (by simp) ?_
  simp [frzS, tset]
  refine CodeJ.go ?_
  simp (disch := omega) [hk, lk', lset_ilv, e2, -List.map_set]
  repeat (refine And.intro (by omega) ?_)
  refine ⟨_, Le.frz 0 rfl (by simp), ?_⟩
  have tk2 : List.take L.length (List.map ilv L2) = List.map ilv L2 := List.take_of_length_le (by simp [l2])
  simp [frzS, tset, l2, tk2]
end Go.Proofs
namespace Go.Proofs
open Go.Sv Go Go.Tb Go.Pl Go.Ut Go.Fn
theorem nar_no {p : Puz} {L : Lf} {M : Tab} (h : Nar p p.values L false) : Sv.fin M (.tup [.val (.slice none 0 0), .val (.bool false)]) (NarQ p) := ⟨.tup [.val (.slice none 0 0), .val (.bool false)], by simp, L, false, h, fun e => (by cases e), fun _ => rfl⟩
theorem nar_yes {p : Puz} {L : Lf} {M : Tab} (h : Nar p p.values L true) : Sv.fin M (.tup [.ro (L.map ilv), .val (.bool true)]) (NarQ p) := ⟨.tup [.ro (L.map ilv), .val (.bool true)], by simp, L, true, h, fun _ => rfl, fun e => by cases e⟩
set_option maxRecDepth 10000 in
set_option maxHeartbeats 1000000 in
theorem rNarrow_ok (p : Puz) (hp : PuzOK p) : PureC Tryd.prog 11 [puzV p] (NarQ p) := by
  have h1 := hp.few.v
  have h2 := hp.few.c
  refine pure_enterJ Tryd.func11 rfl (by simp) (fun C hC => ?_)
  refine CodeJ.seqI (CodeJ.regionI (OpsJ.go ?_))
  simp
  refine CodeJ.frz 0 rfl (by simp) ?_
  simp [frzS, tset]
  refine CodeJ.seqI (CodeJ.regionI (OpsJ.go ?_))
  simp
  refine CodeJ.nil 4 1 rfl ?_
  simp
  refine CodeJ.seqI (CodeJ.regionI (OpsJ.go ?_))
  simp
  refine ⟨⟨by simp [hC], by omega⟩, ?_⟩
  refine CodeJ.frz 1 rfl (by simp) ?_
  simp [frzS, tset]
  refine CodeJ.go ?_
  simp
  refine CodeJ.loop (ι := Lf × Bool) (fun ⟨L, ag⟩ => ⟨56, [(1, .rop (puzV p) 0), (4, .ro (L.map ilv)), (5, bov ag)], []⟩)
    (fun ⟨L, ag⟩ => NarI p L ag) (fun ⟨L, ag⟩ => 2 * size L + if ag = true then 1 else 0) (p.values, true) ?_ ?_ ?_
  · exact ⟨left_0 p _, fun h => by cases h⟩
  · simp [leS, hC]
  rintro ⟨L, ag⟩ ⟨hl, hn⟩
  have llen := hl.len
  cases ag with
  | false =>
    obtain ⟨ne, cns⟩ := hn rfl
    simp [-Bool.exists_bool]
    exact nar_yes ⟨hl.len, hl.sub, hl.fam, fun _ => ⟨ne, cns⟩, fun e => by cases e⟩
  | true =>
    simp [-Bool.exists_bool]
    refine CodeJ.loop (ι := Nat) (fun i => ⟨56, [(1, .rop (puzV p) 0), (4, .ro (L.map ilv)), (5, bov true), (6, iv i)], []⟩)
      (fun i => i ≤ L.length ∧ ∀ j, j < i → gt L j ≠ []) (fun i => L.length - i) 0 ?_ ?_ ?_
    · exact ⟨by omega, fun j hj => by omega⟩
    · simp [leS, hC]
    rintro i ⟨hi, hne⟩
    by_cases hlt : i < L.length
    · have lv := lget_ilv hlt
      have st := @step_lt (fun j => gt L j ≠ []) i hne
      have no : gt L i = [] → ¬ NE L := fun q h => h i hlt q
      generalize gt L i = l at *
      simp (disch := omega) [hlt, lv, -Bool.exists_bool]
      repeat (refine And.intro (by omega) ?_)
      refine ⟨fun q => nar_no (hl.no (no q)), fun q => ?_⟩
      exact ⟨i + 1, ⟨by omega, st q⟩, by omega, by simp (disch := omega) [leS, hC, w64]⟩
    obtain rfl : i = L.length := by omega
    have ne : NE L := hne
    have lok := left_lok hp hl ne
    simp [-Bool.exists_bool]
    refine CodeJ.loop (ι := Nat × Bool × Lf) (fun ⟨i, ag, L'⟩ => ⟨56, [(1, .rop (puzV p) 0), (4, .ro (L'.map ilv)), (5, bov ag), (7, iv i)], []⟩)
      (fun ⟨i, ag, L'⟩ => i ≤ p.cons.length ∧ NarJ p L i ag L') (fun ⟨i, ag, L'⟩ => p.cons.length - i) (0, false, L) ?_ ?_ ?_
    · exact ⟨by omega, hl, fun _ => ⟨rfl, fun j hj => by omega⟩, fun e => by cases e⟩
    · simp [leS, hC]
    rintro ⟨i, ag, L'⟩ ⟨hi, k1, k2, k3⟩
    cases ag with
    | true =>
      by_cases hlt : i < p.cons.length
      · simp [hlt, -Bool.exists_bool]
        exact ⟨L', true, ⟨k1, fun e => by cases e⟩, by have := k3 rfl; simp; omega, by simp [leS, hC]⟩
      · have hlt' : ¬ (i : Int) < p.cons.length := by omega
        simp [hlt', hlt, -Bool.exists_bool]
        exact ⟨L', true, ⟨k1, fun e => by cases e⟩, by have := k3 rfl; simp; omega, by simp [leS, hC]⟩
    | false =>
      obtain ⟨rfl, kc⟩ := k2 rfl
      by_cases hlt : i < p.cons.length
      · have lc := lget_conV hlt
        have hc := hp.con _ (gt_mem hlt)
        have hf := hp.few.k _ (gt_mem hlt)
        have hm := gt_mem hlt
        have sc := @step_lt (fun j => CnsC (gt p.cons j) L') i kc
        generalize gt p.cons i = c at *
        simp (disch := omega) [hlt, lc, -Bool.exists_bool]
        repeat (refine And.intro (by omega) ?_)
        refine callP (rGoes_ok hc hf lok) (SubL_self _ _ (by simp)) (fun y hy => ?_)
        rcases hy with ⟨x, v, hx, hv, hnm, rfl⟩ | ⟨hcc, rfl⟩
        · obtain ⟨d1, d2, d3, d4, d5, d6⟩ := lok.at hc hx
          have hva := hc.va x hx
          obtain ⟨k, hk⟩ : ∃ k : Nat, gt c.vars x = k := ⟨(gt c.vars x).toNat, by omega⟩
          have hk' : (gt c.vars x).toNat = k := by omega
          have kl : k < L'.length := by omega
          have less := hl.less hp.asc hc hm rfl hx hnm
          have ls := less_size (by rw [hk']; exact kl) hv
          unfold lk at less ls d2
          rw [hk'] at less ls d2
          have gw := rWithout_ok L' (by omega) k kl d2 v
          obtain ⟨L2, e2⟩ : ∃ L2, L'.set k ((gt L' k).filter (neB v)) = L2 := ⟨_, rfl⟩
          have less' : Fn.Left p p.values L2 := by rw [← e2]; exact less
          have ls' : size L2 < size L' := by rw [← e2]; exact ls
          rw [e2] at gw
          simp [hk, -Bool.exists_bool]
          refine callS (gw) (by simp) ?_
          simp [-Bool.exists_bool]
          exact ⟨i + 1, true, L2, ⟨by omega, less', fun e => (by cases e), fun _ => ls'⟩, by omega, by simp (disch := omega) [leS, hC, w64]⟩
        · simp [-Bool.exists_bool]
          exact ⟨i + 1, false, L', ⟨by omega, k1, fun _ => ⟨rfl, sc hcc⟩, fun e => by cases e⟩, by omega, by simp (disch := omega) [leS, hC, w64]⟩
      · obtain rfl : i = p.cons.length := by omega
        simp [-Bool.exists_bool]
        exact ⟨L', false, ⟨k1, fun _ => ⟨ne, fun c hc => by
          obtain ⟨j, hj, rfl⟩ := List.getElem_of_mem hc
          rw [gt_get hj]; exact kc j hj⟩⟩, by simp, by simp [leS, hC]⟩
end Go.Proofs

