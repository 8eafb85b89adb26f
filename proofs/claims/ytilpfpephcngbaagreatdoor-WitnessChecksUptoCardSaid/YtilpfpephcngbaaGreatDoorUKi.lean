/- Prices and bounds of a problem: plain data, the document's answer. Prices and bounds of a problem: the program's answer. A text of the prover's own. -/
import Derived.Test.YtilpfpephcngbaaGreatDoorUKg
namespace Go.Li
open Go Go.Sv Go.Pl Go.Proofs Go.Tb Go.Ut
def entT : List Term → Nat → Rat
  | [], _ => 0
  | t :: ts, j => if t.col = (j : Int) then t.num else entT ts j
theorem entT_drop {ts : List Term} {k j : Nat} (h : k < ts.length) : entT (ts.drop k) j = if (gt ts k).col = (j : Int) then (gt ts k).num else entT (ts.drop (k + 1)) j := by
  rw [drop_gt h]; rfl
def dP (p : Prob) (y : List Rat) (j : Nat) : Nat → Rat
  | 0 => (gt p.cols j).cost
  | i + 1 => dP p y j i - gt y i * entT (gt p.rows i).terms j
def pricesP (p : Prob) (y : List Rat) : List Rat := (List.range p.cols.length).map fun j => dP p y j p.rows.length
theorem pricesP_len (p : Prob) (y : List Rat) : (pricesP p y).length = p.cols.length := by simp [pricesP]
theorem gt_prices {p : Prob} {y : List Rat} {j : Nat} (h : j < p.cols.length) : gt (pricesP p y) j = dP p y j p.rows.length := by
  unfold pricesP
  rw [← gt_get (by simpa using h)]; simp
structure BoW (b : Bo) : Prop where
  w : qw 2200 b.at'
/-- numbers of a size that texts have -/
structure ProbW (p : Prob) : Prop where
  sh : qw 2200 p.shift
  co : ∀ j, j < p.cols.length → qw 2200 (gt p.cols j).cost ∧ qw 2200 (gt p.cols j).low.at' ∧ qw 2200 (gt p.cols j).high.at'
  ro : ∀ i, i < p.rows.length → qw 2200 (gt p.rows i).low.at' ∧ qw 2200 (gt p.rows i).high.at'
  te : ∀ i, i < p.rows.length → ∀ k, k < (gt p.rows i).terms.length → qw 2200 (gt (gt p.rows i).terms k).num
theorem qw_entT {k : Nat} (hk : 1 ≤ k) : ∀ {ts : List Term} {j : Nat}, (∀ i, i < ts.length → qw k (gt ts i).num) → qw k (entT ts j)
  | [], j, _ => qw_zero k hk
  | t :: ts, j, h => by
    unfold entT
    split
    · exact h 0 (by simp)
    · exact qw_entT hk fun i hi => h (i + 1) (by simpa using hi)
theorem qw_dP {p : Prob} (hw : ProbW p) {y : List Rat} (hy : Wd 2200 y) (hl : p.rows.length ≤ y.length) {j : Nat} (hj : j < p.cols.length) : ∀ i, i ≤ p.rows.length → qw (2200 + 4401 * i) (dP p y j i)
  | 0, _ => (hw.co j hj).1
  | i + 1, hi => by
    have h1 := qw_dP hw hy hl hj i (by omega)
    have h2 := qw_mul (hy i (by omega)) (qw_entT (by omega) (hw.te i (by omega)) : qw 2200 (entT (gt p.rows i).terms j)) (by omega)
    exact qw_mono (qw_sub h1 h2) (by omega)
/-! between two ends -/
structure Sp where
  lo : Bo
  hi : Bo
def joinB (a b : Bo) (r : Rat) : Bo := if a.has = true ∧ b.has = true then ⟨true, a.at' + b.at' * r⟩ else ⟨false, 0⟩
def plusS (s : Sp) (low high : Bo) (r : Rat) : Sp := if r = 0 then s else if r < 0 then ⟨joinB s.lo high r, joinB s.hi low r⟩ else ⟨joinB s.lo low r, joinB s.hi high r⟩
def spR (p : Prob) (y : List Rat) : Nat → Sp
  | 0 => ⟨⟨true, p.shift⟩, ⟨true, p.shift⟩⟩
  | i + 1 => plusS (spR p y i) (gt p.rows i).low (gt p.rows i).high (gt y i)
def spC (p : Prob) (y : List Rat) : Nat → Sp
  | 0 => spR p y p.rows.length
  | j + 1 => plusS (spC p y j) (gt p.cols j).low (gt p.cols j).high (dP p y j p.rows.length)
def spW (k : Nat) (s : Sp) : Prop := qw k s.lo.at' ∧ qw k s.hi.at'
theorem qw_join {k l m : Nat} {a b : Bo} {r : Rat} (ha : qw k a.at') (hb : qw l b.at') (hr : qw m r) (hl : 1 ≤ l) : qw (k + (l + m) + 1) (joinB a b r).at' := by
  unfold joinB; split
  · exact qw_add ha (qw_mul hb hr (by omega))
  · exact qw_zero _ (by omega)
theorem spW_plus {k l m : Nat} {s : Sp} {a b : Bo} {r : Rat} (hs : spW k s) (ha : qw l a.at') (hb : qw l b.at') (hr : qw m r) (hl : 1 ≤ l) : spW (k + (l + m) + 1) (plusS s a b r) := by
  unfold plusS
  split
  · exact ⟨qw_mono hs.1 (by omega), qw_mono hs.2 (by omega)⟩
  · split
    · exact ⟨qw_join hs.1 hb hr hl, qw_join hs.2 ha hr hl⟩
    · exact ⟨qw_join hs.1 ha hr hl, qw_join hs.2 hb hr hl⟩
theorem spW_R {p : Prob} (hw : ProbW p) {y : List Rat} (hy : Wd 2200 y) (hl : p.rows.length ≤ y.length) : ∀ i, i ≤ p.rows.length → spW (2200 + 4401 * i) (spR p y i)
  | 0, _ => ⟨hw.sh, hw.sh⟩
  | i + 1, hi => by
    have h := spW_plus (spW_R hw hy hl i (by omega)) (hw.ro i (by omega)).1 (hw.ro i (by omega)).2 (hy i (by omega)) (by omega)
    exact ⟨qw_mono h.1 (by omega), qw_mono h.2 (by omega)⟩
theorem spW_C {p : Prob} (hw : ProbW p) {y : List Rat} (hy : Wd 2200 y) (hl : p.rows.length ≤ y.length) (hr : p.rows.length ≤ 120) : ∀ j, j ≤ p.cols.length → spW (1000000 + 1000000 * j) (spC p y j)
  | 0, _ => by
    have h := spW_R hw hy hl p.rows.length (by omega)
    exact ⟨qw_mono h.1 (by omega), qw_mono h.2 (by omega)⟩
  | j + 1, hj => by
    have h := spW_plus (spW_C hw hy hl hr j (by omega)) (hw.co j (by omega)).2.1 (hw.co j (by omega)).2.2 (qw_dP hw hy hl (show j < p.cols.length by omega) p.rows.length (by omega)) (by omega)
    exact ⟨qw_mono h.1 (by omega), qw_mono h.2 (by omega)⟩
/-- what the prices y say -/
def limB (p : Prob) (y : List Rat) : Bo := if p.max = true then (spC p y p.cols.length).hi else (spC p y p.cols.length).lo
theorem joinB_none {a b : Bo} {r : Rat} (h : (joinB a b r).has = false) : joinB a b r = ⟨false, 0⟩ := by
  unfold joinB at h ⊢; split
  · rw [if_pos (by assumption)] at h; cases h
  · rfl
def okB (b : Bo) : Prop := b.has = false → b.at' = 0
def okSp (s : Sp) : Prop := okB s.lo ∧ okB s.hi
theorem okB_join (a b : Bo) (r : Rat) : okB (joinB a b r) := fun h => by rw [joinB_none h]
theorem okSp_plus {s : Sp} (h : okSp s) (a b : Bo) (r : Rat) : okSp (plusS s a b r) := by
  unfold plusS; split
  · exact h
  · split <;> exact ⟨okB_join _ _ _, okB_join _ _ _⟩
theorem okSp_R (p : Prob) (y : List Rat) : ∀ i, okSp (spR p y i)
  | 0 => ⟨fun h => (by cases h), fun h => (by cases h)⟩
  | i + 1 => okSp_plus (okSp_R p y i) _ _ _
theorem okSp_C (p : Prob) (y : List Rat) : ∀ i, okSp (spC p y i)
  | 0 => okSp_R p y _
  | i + 1 => okSp_plus (okSp_C p y i) _ _ _
theorem okB_lim (p : Prob) (y : List Rat) : okB (limB p y) := by
  unfold limB; split
  · exact (okSp_C p y _).2
  · exact (okSp_C p y _).1
def spP (s : Sp) : SV := .agg ((boP s.lo).cells ++ (boP s.hi).cells)
@[simp] theorem spP_csz (s : Sp) : (spP s).csz = 10 := rfl
@[simp] theorem spP_isTup (s : Sp) : (spP s).isTup = false := rfl
@[simp] theorem spP_isAgg (s : Sp) : (spP s).isAgg = true := rfl
@[simp] theorem spP_one (s : Sp) : (spP s).one = false := rfl
@[simp] theorem spP_pure (s : Sp) : (spP s).pure = true := rfl
@[simp] theorem spP_lt (n : Nat) (s : Sp) : (spP s).lt n = true := rfl
@[simp] theorem spP_uses (n : Nat) (s : Sp) : (spP s).uses n = false := rfl
@[simp] theorem spP_ks (s : Sp) : (spP s).ks = [] := rfl
@[simp] theorem spP_f0 (s : Sp) : SV.agg ((spP s).cells.take 5) = boP s.lo := rfl
@[simp] theorem spP_f5 (s : Sp) : SV.agg (((spP s).cells.drop 5).take 5) = boP s.hi := rfl
def spQ (s : Sp) : SV := .agg ((boQ s.lo).cells ++ (boQ s.hi).cells)
@[simp] theorem spQ_csz (s : Sp) : (spQ s).csz = 10 := rfl
@[simp] theorem spQ_isTup (s : Sp) : (spQ s).isTup = false := rfl
@[simp] theorem spQ_isAgg (s : Sp) : (spQ s).isAgg = true := rfl
@[simp] theorem spQ_one (s : Sp) : (spQ s).one = false := rfl
@[simp] theorem spQ_pure (s : Sp) : (spQ s).pure = true := rfl
@[simp] theorem spQ_lt (n : Nat) (s : Sp) : (spQ s).lt n = true := rfl
@[simp] theorem spQ_uses (n : Nat) (s : Sp) : (spQ s).uses n = false := rfl
@[simp] theorem spQ_ks (s : Sp) : (spQ s).ks = [] := rfl
@[simp] theorem spQ_f0 (s : Sp) : SV.agg ((spQ s).cells.take 5) = boQ s.lo := rfl
@[simp] theorem spQ_f5 (s : Sp) : SV.agg (((spQ s).cells.drop 5).take 5) = boQ s.hi := rfl
theorem boP_no : boP ⟨false, 0⟩ = .agg [.val (.bool false), .val (.bool false), .ro [], .val (.bool false), .ro []] := by simp [boP, qb, dig_zero]
theorem boP_mk {q : Rat} : SV.agg (.val (.bool true) :: (qsv q).cells) = boP ⟨true, q⟩ := rfl
theorem spP_mk {a b : Bo} : SV.agg ((boP a).cells ++ (boP b).cells) = spP ⟨a, b⟩ := rfl
theorem spQ_mk {a b : Bo} : SV.agg ((boQ a).cells ++ (boQ b).cells) = spQ ⟨a, b⟩ := rfl
@[simp] theorem boP_q (b : Bo) : SV.agg (List.take 4 (boP b).cells.tail) = qb b := rfl
@[simp] theorem boQ_q (b : Bo) : SV.agg (List.take 4 (boQ b).cells.tail) = rsv b.at' := rfl
@[simp] theorem probP_sh (p : Prob) : SV.agg (List.take 4 (probP p).cells.tail) = qsv p.shift := rfl
@[simp] theorem probQ_sh (p : Prob) : SV.agg (List.take 4 (probQ p).cells.tail) = rsv p.shift := rfl
@[simp] theorem boP_has (b : Bo) : lget (boP b).cells 0 = .val (.bool b.has) := rfl
end Go.Li
namespace Go.Proofs
open Go.Sv Go Go.Tb Go.Pl Go.Ut Go.Li
theorem rEntry_ok (r : Row) (hn : r.terms.length ≤ 1048576) (j : Nat) (hj : j ≤ 1048576) : PureF Tryz.prog 107 [rowP r, iv j] (qsv (entT r.terms j)) := by
  refine pure_enter Tryz.func107 rfl (by simp) (fun C hC => ?_)
  simp
  refine CodeJ.loopL (ι := Nat) (fun k => ⟨26, [(1, iv j), (2, .ptr 0 0 0), (4, .ptr 1 0 0), (5, iv k)], [some ⟨13, [rowP r], false⟩, some ⟨4, [.agg [.val (.bool false), .val (.slice none 0 0), .val (.bool false), .val (.slice none 0 0)]], false⟩]⟩)
    (fun k => k ≤ r.terms.length ∧ entT (r.terms.drop k) j = entT r.terms j) (fun k => r.terms.length - k) 0 (by simp) ?_ ?_
  · simp [leS, hC]
  · rintro k ⟨hk, he⟩
    by_cases hlt : k < r.terms.length
    · rw [entT_drop hlt] at he
      simp (disch := omega) [hlt, lget_cols, lget_nums, w64]
      repeat (refine And.intro (by omega) ?_)
      refine ⟨fun q => by rw [← he, if_pos q], fun q => ⟨k + 1, ⟨by omega, by rw [← he, if_neg q]⟩, by omega, Le.syn (by simp (disch := omega) [leS, hC, w64])⟩⟩
    · obtain rfl : k = r.terms.length := by omega
      rw [List.drop_length] at he
      simp
      repeat (refine And.intro (by omega) ?_)
      refine callS (zeroP) (by simp) ?_
      simp
      rw [← he]; rfl
set_option maxRecDepth 10000 in
theorem rPrices_ok (p : Prob) (h : Few p) (hw : ProbW p) (hr : p.rows.length ≤ 120) (hc : p.cols.length ≤ 120) (y : List Rat) (hy : Wd 2200 y) (hl : y.length = p.rows.length) : PureF Tryz.prog 227 [probP p, .ro (y.map qsv)] (.ro ((pricesP p y).map qsv)) := by
  have nr := h.nr
  refine pure_enter Tryz.func227 rfl (by simp) (fun C hC => ?_)
  simp
  refine CodeJ.nil 5 4 rfl ?_
  refine CodeJ.loopL (ι := Nat) (fun j => ⟨50, [(1, .ro (y.map qsv)), (2, .ptr 0 0 0), (5, .view 1 0 j), (6, iv j)], [some ⟨7, [probP p], false⟩, some ⟨4, ((pricesP p y).take j).map qsv, false⟩]⟩)
    (fun j => j ≤ p.cols.length) (fun j => p.cols.length - j) 0 (by simp) ?_ ?_
  · simp [leS, hC]
  · rintro j hj
    have pl := pricesP_len p y
    by_cases hlt : j < p.cols.length
    · simp (disch := omega) [hlt, lget_colP]
      repeat (refine And.intro (by omega) ?_)
      refine CodeJ.loopL (ι := Nat) (fun i => ⟨50, [(1, .ro (y.map qsv)), (2, .ptr 0 0 0), (5, .view 1 0 j), (6, iv j), (7, .ptr 2 0 0), (8, iv i)], [some ⟨7, [probP p], false⟩, some ⟨4, ((pricesP p y).take j).map qsv, false⟩, some ⟨4, [qsv (dP p y j i)], false⟩]⟩)
        (fun i => i ≤ p.rows.length) (fun i => p.rows.length - i) 0 (by simp) ?_ ?_
      · simp [leS, hC, dP]
        done
      · rintro i hi
        by_cases hil : i < p.rows.length
        · have w1 := qw_dP hw hy (by omega) hlt i (by omega)
          have w2 : qw 2200 (entT (gt p.rows i).terms j) := qw_entT (by omega) (hw.te i hil)
          have w3 := hy i (by omega)
          simp (disch := omega) [hil]
          repeat (refine And.intro (by omega) ?_)
          refine CodeJ.drawZ (.d 12 <| .qs [0, 1, 2, 3, 4, 5, 6, 7, 8, 9] <| .p 10 <| .p 11 <| .b (.l 13 [3] <| .nil)) (by kernel_rfl) (by kernel_rfl) (by simp) ?_
          simp (disch := omega) [hil, lget_rowP, lget_q]
          repeat (refine And.intro (by omega) ?_)
          refine callV (rEntry_ok (gt p.rows i) (h.nt i hil) j (by omega)) (by simp) ?_
          simp
          refine callV (pMul_ok (gt y i) (entT (gt p.rows i).terms j) (qok_of w3 (by omega)) (qok_of w2 (by omega))) (by simp) ?_
          simp
          refine callS (pSub_ok (dP p y j i) (gt y i * entT (gt p.rows i).terms j) (qok_of w1 (by omega)) (qok_of (qw_mul w3 w2 (by omega)) (by omega))) (by simp) ?_
          simp (disch := omega) [w64]
          repeat (refine And.intro (by omega) ?_)
          exact ⟨i + 1, by omega, by omega, Le.syn (by simp (disch := omega) [leS, hC, w64, dP])⟩
        · obtain rfl : i = p.rows.length := by omega
          simp (disch := omega) [w64]
          repeat (refine And.intro (by omega) ?_)
          exact ⟨⟨by simp [hC], by omega⟩, j + 1, by omega, by omega, Le.syn (by simp (disch := omega) [leS, hC, w64, take1 qsv (show j < (pricesP p y).length by omega), gt_prices hlt])⟩
    · obtain rfl : j = p.cols.length := by omega
      simp
      exact ⟨by omega, by rw [List.take_of_length_le (by simp; omega), List.take_of_length_le (by simp; omega)]⟩
theorem rExact_ok (q : Rat) : PureF Tryz.prog 181 [qsv q] (spP ⟨⟨true, q⟩, ⟨true, q⟩⟩) := by
  refine pure_enter Tryz.func181 rfl (by simp) (fun C hC => ?_)
  simp [boP_mk]
  rw [spP_mk]
  exact Sub_self _ _ rfl
set_option maxRecDepth 10000 in
theorem rJoin_ok (a b : Bo) (r : Rat) (ha : qok a.at') (hb : qok b.at') (hr : qok r) (hm : qok (b.at' * r)) : PureF Tryz.prog 229 [boP a, boP b, qsv r] (boP (joinB a b r)) := by
  refine pure_enter Tryz.func229 rfl (by simp) (fun C hC => ?_)
  by_cases h1 : a.has = true
  · by_cases h2 : b.has = true
    · simp [h1, h2]
      rw [qb_has h2]
      refine callS (pMul_ok _ _ hb hr) (by simp) ?_
      simp
      rw [qb_has h1]
      refine callS (pAdd_ok _ _ ha hm) (by simp) ?_
      simp [joinB, h1, h2, boP_mk]
    · simp [h1, h2, joinB, boP_no]
  · simp [h1, joinB, boP_no]
set_option maxRecDepth 10000 in
theorem rSpan_ok (s : Sp) (a b : Bo) (r : Rat) (hs : qok s.lo.at' ∧ qok s.hi.at') (ha : qok a.at') (hb : qok b.at') (hr : qok r) (hm : qok (a.at' * r) ∧ qok (b.at' * r)) : PureF Tryz.prog 182 [spP s, boP a, boP b, qsv r] (spP (plusS s a b r)) := by
  refine pure_enter Tryz.func182 rfl (by simp) (fun C hC => ?_)
  simp
  refine callS (sgnP r) (by simp) ?_
  simp
  refine ⟨fun h0 => ?_, fun h0 => ⟨fun h1 => ?_, fun h1 => ?_⟩⟩
  · simp [plusS, h0]
  · refine callS (rJoin_ok s.lo b r hs.1 hb hr hm.2) (by simp) ?_
    simp
    refine callS (rJoin_ok s.hi a r hs.2 ha hr hm.1) (by simp) ?_
    simp [plusS, h0, h1, spP_mk]
  · refine callS (rJoin_ok s.lo a r hs.1 ha hr hm.1) (by simp) ?_
    simp
    refine callS (rJoin_ok s.hi b r hs.2 hb hr hm.2) (by simp) ?_
    simp [plusS, h0, h1, spP_mk]
set_option maxRecDepth 10000 in
theorem rLimit_ok (p : Prob) (h : Few p) (hw : ProbW p) (hr : p.rows.length ≤ 120) (hc : p.cols.length ≤ 120) (y : List Rat) (hy : Wd 2200 y) (hl : y.length = p.rows.length) : PureF Tryz.prog 179 [probP p, .ro (y.map qsv)] (.tup [qsv (limB p y).at', .val (.bool (limB p y).has)]) := by
  have nr := h.nr
  have pl := pricesP_len p y
  refine pure_enter Tryz.func179 rfl (by simp) (fun C hC => ?_)
  simp
  refine callS (rExact_ok p.shift) (by simp) ?_
  simp
  refine CodeJ.loopL (ι := Nat) (fun i => ⟨79, [(1, .ro (y.map qsv)), (2, .ptr 0 0 0), (4, .ptr 1 0 0), (6, .ptr 2 0 0), (7, iv i)], [some ⟨7, [probP p], false⟩, some ⟨4, [.agg [.val (.bool false), .val (.slice none 0 0), .val (.bool false), .val (.slice none 0 0)]], false⟩, some ⟨10, [spP (spR p y i)], false⟩]⟩)
    (fun i => i ≤ p.rows.length) (fun i => p.rows.length - i) 0 (by simp) ?_ ?_
  · simp [leS, hC, spR]
    done
  · rintro i hi
    by_cases hlt : i < p.rows.length
    · have w1 := spW_R hw hy (by omega) i (by omega)
      have w2 := hw.ro i hlt
      have w3 := hy i (by omega)
      simp (disch := omega) [hlt]
      repeat (refine And.intro (by omega) ?_)
      refine CodeJ.draw (.qs [0, 1, 2, 3, 4, 5, 6, 7, 8, 9, 10, 11, 12, 13, 14, 15, 16] <| .l 17 [] <| .l 18 [2] <| .nil) (by kernel_rfl) (by kernel_rfl) (by simp) ?_
      simp (disch := omega) [hlt, lget_rowP, lget_q]
      repeat (refine And.intro (by omega) ?_)
      refine callS (rSpan_ok (spR p y i) (gt p.rows i).low (gt p.rows i).high (gt y i) ⟨qok_of w1.1 (by omega), qok_of w1.2 (by omega)⟩ (qok_of w2.1 (by omega)) (qok_of w2.2 (by omega)) (qok_of w3 (by omega)) ⟨qok_of (qw_mul w2.1 w3 (by omega)) (by omega), qok_of (qw_mul w2.2 w3 (by omega)) (by omega)⟩) (by simp) ?_
      simp (disch := omega) [w64]
      repeat (refine And.intro (by omega) ?_)
      exact ⟨i + 1, by omega, by omega, Le.syn (by simp (disch := omega) [leS, hC, w64, spR])⟩
    · obtain rfl : i = p.rows.length := by omega
      simp
      refine callS (rPrices_ok p h hw hr hc y hy hl) (by simp) ?_
      simp
      refine CodeJ.loopL (ι := Nat) (fun j => ⟨79, [(1, .ro (y.map qsv)), (2, .ptr 0 0 0), (4, .ptr 1 0 0), (6, .ptr 2 0 0), (8, .ro ((pricesP p y).map qsv)), (9, iv j)], [some ⟨7, [probP p], false⟩, some ⟨4, [.agg [.val (.bool false), .val (.slice none 0 0), .val (.bool false), .val (.slice none 0 0)]], false⟩, some ⟨10, [spP (spC p y j)], false⟩]⟩)
        (fun j => j ≤ p.cols.length) (fun j => p.cols.length - j) 0 (by simp) ?_ ?_
      · simp [leS, hC, spC]
      · rintro j hj
        by_cases hjl : j < p.cols.length
        · have w1 := spW_C hw hy (by omega) hr j (by omega)
          have w2 := hw.co j hjl
          have w3 := qw_dP hw hy (by omega) hjl p.rows.length (by omega)
          simp (disch := omega) [hjl]
          repeat (refine And.intro (by omega) ?_)
          refine CodeJ.draw (.qs [0, 1, 2, 3, 4, 5, 6, 7, 8, 9, 10, 11, 12, 13, 14, 15, 16] <| .l 17 [] <| .l 18 [2] <| .nil) (by kernel_rfl) (by kernel_rfl) (by simp) ?_
          simp (disch := omega) [hjl, lget_colP, lget_q, gt_prices hjl]
          repeat (refine And.intro (by omega) ?_)
          refine callS (rSpan_ok (spC p y j) (gt p.cols j).low (gt p.cols j).high (dP p y j p.rows.length) ⟨qok_of w1.1 (by omega), qok_of w1.2 (by omega)⟩ (qok_of w2.2.1 (by omega)) (qok_of w2.2.2 (by omega)) (qok_of w3 (by omega)) ⟨qok_of (qw_mul w2.2.1 w3 (by omega)) (by omega), qok_of (qw_mul w2.2.2 w3 (by omega)) (by omega)⟩) (by simp) ?_
          simp (disch := omega) [w64]
          repeat (refine And.intro (by omega) ?_)
          exact ⟨j + 1, by omega, by omega, Le.syn (by simp (disch := omega) [leS, hC, w64, spC])⟩
        · obtain rfl : j = p.cols.length := by omega
          simp
          have hk := okB_lim p y
          refine ⟨fun hm => ?_, fun hm => ?_⟩
          · rw [show (spC p y p.cols.length).hi = limB p y by unfold limB; rw [if_pos hm]]
            generalize limB p y = b at *
            refine ⟨fun h1 => ?_, fun h1 => ?_⟩
            · refine callS (zeroP) (by simp) ?_
              simp [h1, hk h1]
            · simp [h1, qb_has h1]
          · rw [show (spC p y p.cols.length).lo = limB p y by unfold limB; rw [if_neg (by simp [hm])]]
            generalize limB p y = b at *
            refine ⟨fun h1 => ?_, fun h1 => ?_⟩
            · refine callS (zeroP) (by simp) ?_
              simp [h1, hk h1]
            · simp [h1, qb_has h1]
end Go.Proofs
namespace Go.Li
open Go Go.Sv Go.Pl Go.Proofs Go.Tb Go.Ut
theorem badT_ok {n : Nat} : ∀ {ts : List Term} {c : Int}, badT n c ts = false → ∀ k, k < ts.length → c < (gt ts k).col ∧ (gt ts k).col < n ∧ (gt ts k).num ≠ 0 ∧ ∀ k', k' < k → (gt ts k').col < (gt ts k).col
  | [], c, _, k, hk => by simp at hk
  | t :: ts, c, h, k, hk => by
    simp only [badT, Bool.or_eq_false_iff, decide_eq_false_iff_not] at h
    obtain ⟨⟨⟨h1, h2⟩, h3⟩, h4⟩ := h
    have ih := badT_ok h4
    cases k with
    | zero => exact ⟨by show c < t.col; omega, by show t.col < n; omega, h3, fun k' h => by omega⟩
    | succ k =>
      obtain ⟨g1, g2, g3, g4⟩ := ih k (by simpa using hk)
      have g1' : t.col < (gt (t :: ts) (k + 1)).col := g1
      refine ⟨by omega, g2, g3, fun k' hk' => ?_⟩
      cases k' with
      | zero => exact g1
      | succ k' => exact g4 k' (by omega)
theorem entT_snoc {t : Term} : ∀ {a : List Term} {j : Nat}, entT (a ++ [t]) j = if t.col = (j : Int) then (if (∀ k, k < a.length → (gt a k).col ≠ (j : Int)) then t.num else entT a j) else entT a j
  | [], j => by simp [entT]
  | u :: a, j => by
    have ih := entT_snoc (t := t) (a := a) (j := j)
    show (if u.col = (j : Int) then u.num else entT (a ++ [t]) j) = _
    by_cases hu : u.col = (j : Int)
    · have : ¬ ∀ k, k < (u :: a).length → (gt (u :: a) k).col ≠ (j : Int) := fun h => h 0 (by simp) hu
      simp only [hu, if_true, if_neg this, entT, ite_self]
    · have e : (∀ k, k < (u :: a).length → (gt (u :: a) k).col ≠ (j : Int)) ↔ ∀ k, k < a.length → (gt a k).col ≠ (j : Int) := by
        constructor
        · exact fun h k hk => h (k + 1) (by simpa using hk)
        · intro h k hk
          cases k with
          | zero => exact hu
          | succ k => exact h k (by simpa using hk)
      simp only [hu, if_false, entT, ih, e]
theorem entT_no : ∀ {a : List Term} {j : Nat}, (∀ k, k < a.length → (gt a k).col ≠ (j : Int)) → entT a j = 0
  | [], j, _ => rfl
  | u :: a, j, h => by
    unfold entT
    rw [if_neg (show ¬ u.col = (j : Int) from h 0 (by simp)), entT_no fun k hk => h (k + 1) (by simpa using hk)]
/-- the prices after i rows, and k terms of the next one -/
def prR (p : Prob) (y : List Rat) (i : Nat) : List Rat := (List.range p.cols.length).map fun j => dP p y j i
def prT (p : Prob) (y : List Rat) (i k : Nat) : List Rat := (List.range p.cols.length).map fun j => dP p y j i - gt y i * entT ((gt p.rows i).terms.take k) j
@[simp] theorem prR_len (p : Prob) (y : List Rat) (i : Nat) : (prR p y i).length = p.cols.length := by simp [prR]
@[simp] theorem prT_len (p : Prob) (y : List Rat) (i k : Nat) : (prT p y i k).length = p.cols.length := by simp [prT]
theorem gt_rng {n j : Nat} {f : Nat → Rat} (h : j < n) : gt ((List.range n).map f) j = f j := by
  rw [← gt_get (by simpa using h)]; simp
theorem prT_0 (p : Prob) (y : List Rat) (i : Nat) : prT p y i 0 = prR p y i := by
  unfold prT prR
  refine List.map_congr_left fun j _ => ?_
  simp [entT, Rat.sub_eq_add_neg, Rat.add_zero]
theorem prT_all (p : Prob) (y : List Rat) (i : Nat) : prT p y i (gt p.rows i).terms.length = prR p y (i + 1) := by
  unfold prT prR
  refine List.map_congr_left fun j _ => ?_
  rw [List.take_length]; rfl
theorem prT_set {p : Prob} {y : List Rat} {i k : Nat} (hb : badT p.cols.length (-1) (gt p.rows i).terms = false) (hk : k < (gt p.rows i).terms.length) :
    (prT p y i k).set (gt (gt p.rows i).terms k).col.toNat (gt (prT p y i k) (gt (gt p.rows i).terms k).col.toNat - (gt (gt p.rows i).terms k).num * gt y i) = prT p y i (k + 1) := by
  obtain ⟨h1, h2, h3, h4⟩ := badT_ok hb k hk
  have hc : (gt (gt p.rows i).terms k).col.toNat < p.cols.length := by omega
  refine ext_gt' (by simp) fun j hj => ?_
  simp only [List.length_set, prT_len] at hj
  rw [gt_set (by simpa using hj)]
  unfold prT
  rw [gt_rng hj, gt_rng hc, gt_rng hj, take_gt hk, entT_snoc]
  have hm : ∀ k', k' < ((gt p.rows i).terms.take k).length → (gt ((gt p.rows i).terms.take k) k').col < (gt (gt p.rows i).terms k).col := fun k' hk' => by
    simp only [List.length_take] at hk'
    have e : gt ((gt p.rows i).terms.take k) k' = gt (gt p.rows i).terms k' := by
      rw [← gt_get (by simpa using hk'), List.getElem_take, gt_get (by omega)]
    rw [e]; exact h4 k' (by omega)
  by_cases e : (gt (gt p.rows i).terms k).col.toNat = j
  · have e' : (gt (gt p.rows i).terms k).col = (j : Int) := by omega
    have hn : ∀ k', k' < ((gt p.rows i).terms.take k).length → (gt ((gt p.rows i).terms.take k) k').col ≠ (j : Int) := fun k' hk' => by
      have := hm k' hk'; omega
    rw [if_pos e, if_pos e', if_pos hn, e, entT_no hn]
    simp [Rat.sub_eq_add_neg, Rat.mul_comm, Rat.add_zero]
  · have e' : ¬ (gt (gt p.rows i).terms k).col = (j : Int) := by omega
    rw [if_neg e, if_neg e']
theorem entT_take {ts : List Term} {j : Nat} : ∀ {k : Nat}, k ≤ ts.length → entT (ts.take k) j = 0 ∨ ∃ i, i < ts.length ∧ entT (ts.take k) j = (gt ts i).num
  | 0, _ => .inl rfl
  | k + 1, hk => by
    rw [take_gt (show k < ts.length by omega), entT_snoc]
    have ih := entT_take (ts := ts) (j := j) (k := k) (by omega)
    split
    · split
      · exact .inr ⟨k, by omega, rfl⟩
      · exact ih
    · exact ih
theorem qw_prT {p : Prob} (hw : ProbW p) {y : List Rat} (hy : Wd 2200 y) (hl : p.rows.length ≤ y.length) {i k j : Nat} (hi : i < p.rows.length) (hk : k ≤ (gt p.rows i).terms.length) (hj : j < p.cols.length) : qw (6601 + 4401 * i) (gt (prT p y i k) j) := by
  unfold prT
  rw [gt_rng hj]
  have h1 := qw_dP hw hy hl hj i (by omega)
  have h2 : qw 2200 (entT ((gt p.rows i).terms.take k) j) := by
    rcases entT_take (j := j) hk with e | ⟨q, hq, e⟩
    · rw [e]; exact qw_zero _ (by omega)
    · rw [e]; exact hw.te i hi q hq
  exact qw_mono (qw_sub h1 (qw_mul (hy i (by omega)) h2 (by omega))) (by omega)
end Go.Li
namespace Go.Proofs
open Go.Sv Go Go.Tb Go.Pl Go.Ut Go.Li
set_option maxRecDepth 10000 in
theorem qPrices_ok (p : Prob) (h : Few p) (hw : ProbW p) (hr : p.rows.length ≤ 120) (hc : p.cols.length ≤ 120) (hb : ∀ i, i < p.rows.length → badT p.cols.length (-1) (gt p.rows i).terms = false)
    (y : List Rat) (hy : Wd 2200 y) (hl : y.length = p.rows.length) : PureF Tryz.prog 177 [.rop (probQ p) 0, .ro (y.map rsv)] (.ro ((pricesP p y).map rsv)) := by
  have nr := h.nr
  refine pure_enter Tryz.func177 rfl (by simp) (fun C hC => ?_)
  simp
  refine ⟨⟨by omega, by omega⟩, ?_⟩
  refine CodeJ.loopL (ι := Nat) (fun j => ⟨71, [(0, .rop (probQ p) 0), (1, .ro (y.map rsv)), (5, .view 0 0 p.cols.length), (21, .ro (p.cols.map colQ)), (22, iv p.cols.length), (23, iv j)], [some ⟨4, ((prR p y 0).take j).map rsv ++ List.replicate (p.cols.length - j) (.agg [.val (.bool false), .val (.slice none 0 0), .val (.bool false), .val (.slice none 0 0)]), false⟩]⟩)
    (fun j => j ≤ p.cols.length) (fun j => p.cols.length - j) 0 (by simp) ?_ ?_
  · simp [leS, hC]
    done
  · rintro j hj
    have pl := prR_len p y 0
    by_cases hlt : j < p.cols.length
    · have hA : (((prR p y 0).take j).map rsv).length = j := by simp; omega
      have l1 := lset_fill (n := p.cols.length) (z := .agg [.val (.bool false), .val (.slice none 0 0), .val (.bool false), .val (.slice none 0 0)]) (y := rsv (gt p.cols j).cost) hA hlt
      have l2 := lget_fill (n := p.cols.length) (z := .agg [.val (.bool false), .val (.slice none 0 0), .val (.bool false), .val (.slice none 0 0)]) hA hlt
      simp only [List.map_take] at l1 l2
      have e : gt (prR p y 0) j = (gt p.cols j).cost := by unfold prR; rw [gt_rng hlt]; rfl
      simp (disch := omega) [hlt, lget_colQ, l1, l2, w64]
      repeat (refine And.intro (by omega) ?_)
      have hz : SV.ltL 1 (List.replicate (p.cols.length - (j + 1)) (.agg [.val (.bool false), .val (.slice none 0 0), .val (.bool false), .val (.slice none 0 0)])) = true := ltL_rep rfl
      exact ⟨j + 1, by omega, by omega, Le.syn (by simp (disch := omega) [leS, hC, w64, take1 rsv (show j < (prR p y 0).length by omega), e, hz])⟩
    · obtain rfl : j = p.cols.length := by omega
      simp
      refine CodeJ.loopL (ι := Nat) (fun i => ⟨71, [(0, .rop (probQ p) 0), (1, .ro (y.map rsv)), (5, .view 0 0 p.cols.length), (37, .ro (p.rows.map rowQ)), (38, iv p.rows.length), (39, iv i)], [some ⟨4, (prR p y i).map rsv, false⟩]⟩)
        (fun i => i ≤ p.rows.length) (fun i => p.rows.length - i) 0 (by simp) ?_ ?_
      · rw [List.take_of_length_le (by simp)]
        simp [leS, hC]
      · rintro i hi
        by_cases hlt : i < p.rows.length
        · have nt := h.nt i hlt
          simp (disch := omega) [hlt, lget_rowQ]
          repeat (refine And.intro (by omega) ?_)
          refine CodeJ.loopL (ι := Nat) (fun k => ⟨71, [(0, .rop (probQ p) 0), (1, .ro (y.map rsv)), (5, .view 0 0 p.cols.length), (8, iv i), (37, .ro (p.rows.map rowQ)), (38, iv p.rows.length), (39, iv i), (45, .ro ((gt p.rows i).terms.map termQ)), (46, iv (gt p.rows i).terms.length), (47, iv k)], [some ⟨4, (prT p y i k).map rsv, false⟩]⟩)
            (fun k => k ≤ (gt p.rows i).terms.length) (fun k => (gt p.rows i).terms.length - k) 0 (by simp) ?_ ?_
          · simp [leS, hC, prT_0]
          · rintro k hk
            by_cases hkl : k < (gt p.rows i).terms.length
            · obtain ⟨b1, b2, -, -⟩ := badT_ok (hb i hlt) k hkl
              have w1 := hw.te i hlt k hkl
              have w2 := hy i (by omega)
              have w3 := qw_prT hw hy (by omega) hlt (show k ≤ _ by omega) (show (gt (gt p.rows i).terms k).col.toNat < p.cols.length by omega)
              have e1 := prT_set (y := y) (hb i hlt) hkl
              simp (disch := omega) [hkl, lget_terms, lget_r, w64]
              repeat (refine And.intro (by omega) ?_)
              refine CodeJ.draw (.qs [0, 1, 2, 3, 4, 5, 6, 7, 8, 9, 10, 11, 12, 13] <| .l 14 [] <| .l 15 [] <| .qs [16] <| .l 17 [0] <| .nil) (by kernel_rfl) (by kernel_rfl) (by simp) ?_
              have l3 : lget ((prT p y i k).map rsv) (gt (gt p.rows i).terms k).col.toNat = rsv (gt (prT p y i k) (gt (gt p.rows i).terms k).col.toNat) := lget_r (by simp; omega)
              simp (disch := omega) [hkl, lget_terms, lget_r, l3, w64]
              repeat (refine And.intro (by omega) ?_)
              refine callS (qMul_ok _ _ (qok_of w1 (by omega)) (qok_of w2 (by omega))) (by simp) ?_
              simp
              refine callS (qSub_ok _ _ (qok_of w3 (by omega)) (qok_of (qw_mul w1 w2 (by omega)) (by omega))) (by simp) ?_
              simp (disch := omega) [l3]
              repeat (refine And.intro (by omega) ?_)
              have l4 : lset ((prT p y i k).map rsv) (gt (gt p.rows i).terms k).col.toNat (rsv (gt (prT p y i k) (gt (gt p.rows i).terms k).col.toNat - (gt (gt p.rows i).terms k).num * gt y i)) = (prT p y i (k + 1)).map rsv := by rw [lset_eq, r_set, e1]
              exact ⟨k + 1, by omega, by omega, Le.syn (by simp (disch := omega) [leS, hC, w64, l4])⟩
            · obtain rfl : k = (gt p.rows i).terms.length := by omega
              simp (disch := omega) [w64]
              repeat (refine And.intro (by omega) ?_)
              exact ⟨i + 1, by omega, by omega, Le.syn (by simp (disch := omega) [leS, hC, w64, prT_all])⟩
        · obtain rfl : i = p.rows.length := by omega
          simp
          rw [List.take_of_length_le (by simp)]
          rfl
theorem qPoint_ok (q : Rat) : PureF Tryz.prog 175 [rsv q] (spQ ⟨⟨true, q⟩, ⟨true, q⟩⟩) := by
  refine pure_enter Tryz.func175 rfl (by simp) (fun C hC => ?_)
  simp [boQ_mk, spQ_mk]
set_option maxRecDepth 10000 in
theorem qJoin_ok (a b : Bo) (r : Rat) (ha : qok a.at') (hb : qok b.at') (hr : qok r) (hm : qok (b.at' * r)) : PureF Tryz.prog 226 [boQ a, boQ b, .rop (rsv r) 0] (boQ (joinB a b r)) := by
  refine pure_enter Tryz.func226 rfl (by simp) (fun C hC => ?_)
  by_cases h1 : a.has = true
  · by_cases h2 : b.has = true
    · simp [h1, h2]
      refine CodeJ.draw (.qs [0, 1, 2, 3, 4] <| .l 5 [] <| .l 6 [] <| .qs [7] <| .l 8 [2] <| .nil) (by kernel_rfl) (by kernel_rfl) (by simp) ?_
      simp
      refine callS (qMul_ok _ _ hb hr) (by simp) ?_
      simp
      refine callS (qAdd_ok _ _ ha hm) (by simp) ?_
      simp [joinB, h1, h2, boQ_mk]
    · simp [h1, h2, joinB, boQ_no]
  · simp [h1, joinB, boQ_no]
set_option maxRecDepth 10000 in
theorem qSpan_ok (s : Sp) (a b : Bo) (r : Rat) (hs : qok s.lo.at' ∧ qok s.hi.at') (ha : qok a.at') (hb : qok b.at') (hr : qok r) (hm : qok (a.at' * r) ∧ qok (b.at' * r)) : PureF Tryz.prog 176 [spQ s, boQ a, boQ b, rsv r] (spQ (plusS s a b r)) := by
  refine pure_enterW Tryz.func176 rfl (by simp) (fun C hC => ?_)
  simp
  refine callS (sgnQ r) (by simp) ?_
  have sg : sgv r = -1 ↔ r < 0 := by unfold sgv; rw [Int.sign_eq_neg_one_iff_neg, num_neg]
  simp [sg]
  refine ⟨fun h0 => ?_, fun h0 => ⟨fun h1 => ?_, fun h1 => ?_⟩⟩
  · refine ⟨_, Le.refl _ _, ?_⟩
    simp [plusS, h0]
  · refine CodeJ.frz 3 rfl (by simp) ?_
    simp [frzS, tset]
    refine CodeJ.draw (.qs [0, 1, 2, 3, 5, 6, 7, 8] <| .l 4 [] <| .l 9 [] <| .qs [10] <| .l 11 [4] <| .nil) (by kernel_rfl) (by kernel_rfl) (by simp) ?_
    simp
    refine callS (qJoin_ok s.lo b r hs.1 hb hr hm.2) (by simp) ?_
    simp
    refine callS (qJoin_ok s.hi a r hs.2 ha hr hm.1) (by simp) ?_
    simp
    refine ⟨_, Le.refl _ _, ?_⟩
    simp [plusS, h0, h1, spQ_mk]
  · refine CodeJ.frz 3 rfl (by simp) ?_
    simp [frzS, tset]
    refine CodeJ.draw (.qs [0, 1, 2, 3, 5, 6, 7, 8] <| .l 4 [] <| .l 9 [] <| .qs [10] <| .l 11 [4] <| .nil) (by kernel_rfl) (by kernel_rfl) (by simp) ?_
    simp
    refine callS (qJoin_ok s.lo a r hs.1 ha hr hm.1) (by simp) ?_
    simp
    refine callS (qJoin_ok s.hi b r hs.2 hb hr hm.2) (by simp) ?_
    simp
    refine ⟨_, Le.refl _ _, ?_⟩
    simp [plusS, h0, h1, spQ_mk]
set_option maxRecDepth 10000 in
theorem qBound_ok (p : Prob) (h : Few p) (hw : ProbW p) (hr : p.rows.length ≤ 120) (hc : p.cols.length ≤ 120) (hb : ∀ i, i < p.rows.length → badT p.cols.length (-1) (gt p.rows i).terms = false)
    (y : List Rat) (hy : Wd 2200 y) (hl : y.length = p.rows.length) : PureF Tryz.prog 224 [.rop (probQ p) 0, .ro (y.map rsv)] (spQ (spC p y p.cols.length)) := by
  have nr := h.nr
  have pl := pricesP_len p y
  refine pure_enter Tryz.func224 rfl (by simp) (fun C hC => ?_)
  simp
  refine callS (qPoint_ok p.shift) (by simp) ?_
  simp
  refine CodeJ.loopL (ι := Nat) (fun i => ⟨66, [(0, .rop (probQ p) 0), (1, .ro (y.map rsv)), (4, .ptr 0 0 0), (5, .ptr 1 0 0), (18, .ro (p.rows.map rowQ)), (19, iv p.rows.length), (20, iv i)], [some ⟨10, [.agg [.val (.bool false), .val (.bool false), .val (.slice none 0 0), .val (.bool false), .val (.slice none 0 0), .val (.bool false), .val (.bool false), .val (.slice none 0 0), .val (.bool false), .val (.slice none 0 0)]], false⟩, some ⟨10, [spQ (spR p y i)], false⟩]⟩)
    (fun i => i ≤ p.rows.length) (fun i => p.rows.length - i) 0 (by simp) ?_ ?_
  · simp [leS, hC, spR]
  · rintro i hi
    by_cases hlt : i < p.rows.length
    · have w1 := spW_R hw hy (by omega) i (by omega)
      have w2 := hw.ro i hlt
      have w3 := hy i (by omega)
      simp (disch := omega) [hlt, lget_rowQ]
      repeat (refine And.intro (by omega) ?_)
      refine CodeJ.draw (.qs [0, 1, 2, 3, 4, 5, 6, 7, 8] <| .l 9 [] <| .l 10 [1] <| .nil) (by kernel_rfl) (by kernel_rfl) (by simp) ?_
      simp (disch := omega) [hlt, lget_rowQ, lget_r]
      repeat (refine And.intro (by omega) ?_)
      refine callS (qSpan_ok (spR p y i) (gt p.rows i).low (gt p.rows i).high (gt y i) ⟨qok_of w1.1 (by omega), qok_of w1.2 (by omega)⟩ (qok_of w2.1 (by omega)) (qok_of w2.2 (by omega)) (qok_of w3 (by omega)) ⟨qok_of (qw_mul w2.1 w3 (by omega)) (by omega), qok_of (qw_mul w2.2 w3 (by omega)) (by omega)⟩) (by simp) ?_
      simp (disch := omega) [w64]
      repeat (refine And.intro (by omega) ?_)
      exact ⟨i + 1, by omega, by omega, Le.syn (by simp (disch := omega) [leS, hC, w64, spR])⟩
    · obtain rfl : i = p.rows.length := by omega
      simp
      refine callS (qPrices_ok p h hw hr hc hb y hy hl) (by simp) ?_
      simp
      refine CodeJ.loopL (ι := Nat) (fun j => ⟨66, [(0, .rop (probQ p) 0), (1, .ro (y.map rsv)), (4, .ptr 0 0 0), (5, .ptr 1 0 0), (38, .ro ((pricesP p y).map rsv)), (39, iv p.cols.length), (40, iv j)], [some ⟨10, [.agg [.val (.bool false), .val (.bool false), .val (.slice none 0 0), .val (.bool false), .val (.slice none 0 0), .val (.bool false), .val (.bool false), .val (.slice none 0 0), .val (.bool false), .val (.slice none 0 0)]], false⟩, some ⟨10, [spQ (spC p y j)], false⟩]⟩)
        (fun j => j ≤ p.cols.length) (fun j => p.cols.length - j) 0 (by simp) ?_ ?_
      · simp [leS, hC, spC, pl]
      · rintro j hj
        by_cases hjl : j < p.cols.length
        · have w1 := spW_C hw hy (by omega) hr j (by omega)
          have w2 := hw.co j hjl
          have w3 := qw_dP hw hy (by omega) hjl p.rows.length (by omega)
          simp (disch := omega) [hjl, lget_r, pl, gt_prices hjl]
          repeat (refine And.intro (by omega) ?_)
          refine CodeJ.draw (.qs [0, 1, 2, 3, 4, 5, 6, 7, 8, 9, 10, 11, 12, 13, 14, 15, 16, 17] <| .l 18 [] <| .l 19 [1] <| .nil) (by kernel_rfl) (by kernel_rfl) (by simp) ?_
          simp (disch := omega) [hjl, lget_colQ]
          repeat (refine And.intro (by omega) ?_)
          refine callS (qSpan_ok (spC p y j) (gt p.cols j).low (gt p.cols j).high (dP p y j p.rows.length) ⟨qok_of w1.1 (by omega), qok_of w1.2 (by omega)⟩ (qok_of w2.2.1 (by omega)) (qok_of w2.2.2 (by omega)) (qok_of w3 (by omega)) ⟨qok_of (qw_mul w2.2.1 w3 (by omega)) (by omega), qok_of (qw_mul w2.2.2 w3 (by omega)) (by omega)⟩) (by simp) ?_
          simp (disch := omega) [w64]
          repeat (refine And.intro (by omega) ?_)
          exact ⟨j + 1, by omega, by omega, Le.syn (by simp (disch := omega) [leS, hC, w64, spC])⟩
        · obtain rfl : j = p.cols.length := by omega
          simp
end Go.Proofs

