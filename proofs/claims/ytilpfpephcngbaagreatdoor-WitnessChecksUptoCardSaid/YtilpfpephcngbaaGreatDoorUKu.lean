/- What the document makes of a claim: out of texts; whether it shows itself. What the law WitnessChecks returns. A text of the prover's own. -/
import Derived.Test.YtilpfpephcngbaaGreatDoorUKr
import Derived.Test.YtilpfpephcngbaaGreatDoorUKv
namespace Go.Li
open Go Go.Sv Go.Pl Go.Proofs Go.Tb Go.Ut
theorem sgnAt_le (s : ByteArray) : sgnAt s ≤ s.size := by
  unfold sgnAt; split
  · rename_i h; have := h.1; omega
  · omega
/-- a text's digits are never more than its bytes -/
theorem qrd_big {m m' : Nat} {s : ByteArray} (h : s.size ≤ m) (h' : s.size ≤ m') : qrd m s = qrd m' s := by
  have d : ∀ a, a ≤ s.size → dend s a ≤ s.size := fun a ha => dend_le ha
  have h1 := d _ (sgnAt_le s)
  have n1 : ¬ sgnAt s + m < dend s (sgnAt s) := by omega
  have n2 : ¬ sgnAt s + m' < dend s (sgnAt s) := by omega
  unfold qrd
  rw [if_neg n1, if_neg n2]
  by_cases c1 : dend s (sgnAt s) = sgnAt s
  · rw [if_pos c1, if_pos c1]
  · rw [if_neg c1, if_neg c1]
    by_cases c2 : isAt s (dend s (sgnAt s)) 47
    · have := c2.1
      have h2 := d (dend s (sgnAt s) + 1) (by omega)
      rw [if_pos c2, if_pos c2, if_neg (show ¬ dend s (sgnAt s) + 1 + m < _ by omega), if_neg (show ¬ dend s (sgnAt s) + 1 + m' < _ by omega)]
    · rw [if_neg c2, if_neg c2]
      by_cases c3 : isAt s (dend s (sgnAt s)) 46
      · have := c3.1
        have h2 := d (dend s (sgnAt s) + 1) (by omega)
        rw [if_pos c3, if_pos c3, if_neg (show ¬ dend s (sgnAt s) + 1 + m < _ by omega), if_neg (show ¬ dend s (sgnAt s) + 1 + m' < _ by omega)]
      · rw [if_neg c3, if_neg c3]
/-- a number that was answered: as long as it likes -/
def sd (s : ByteArray) : Rat × Nat × Nat := qrd (s.size + 1) s
def okSd (s : ByteArray) : Bool := decide ((sd s).2.1 = 0)
def saidB (s : ByteArray) : Bo := if okSd s = true then ⟨true, (sd s).1⟩ else ⟨false, 0⟩
def sds (l : List ByteArray) : List Rat := l.map fun s => (sd s).1
def okSds (l : List ByteArray) : Bool := l.all okSd
def sdX (l : List ByteArray) : List SV := if okSds l = true then (sds l).map qsv else []
theorem sd_short {s : ByteArray} (h : s.size ≤ 24) : sd s = qrd 300 s := qrd_big (by omega) (by omega)
theorem okSd_short {s : ByteArray} (h : s.size ≤ 24) : okSd s = okNum s := by unfold okSd okNum; rw [sd_short h]
theorem short_le {l : List ByteArray} (h : shortB l = true) : ∀ s ∈ l, s.size ≤ 24 := fun s hs => by
  unfold shortB at h
  simp only [Bool.and_eq_true, List.all_eq_true, decide_eq_true_eq] at h
  exact h.2 s hs
theorem okSds_short {l : List ByteArray} (h : shortB l = true) : okSds l = okN l := by
  have e : ∀ l : List ByteArray, (∀ s ∈ l, s.size ≤ 24) → okSds l = okN l := fun l => by
    induction l with
    | nil => exact fun _ => rfl
    | cons a l ih =>
      intro h
      have := ih fun s hs => h s (by simp [hs])
      unfold okSds okN at this ⊢
      rw [List.all_cons, List.all_cons, this, okSd_short (h a (by simp))]; rfl
  exact e l (short_le h)
theorem sds_short {l : List ByteArray} (h : shortB l = true) : sds l = nums l :=
  List.map_congr_left fun s hs => by rw [sd_short (short_le h s hs)]; rfl
theorem sdX_short {l : List ByteArray} (h : shortB l = true) : sdX l = (numR l).map qsv := by
  unfold sdX numR
  rw [okSds_short h, sds_short h]; split <;> rfl
def clP (c : Clm) : SV := .agg ([iv c.kind, .ro (c.x.map qsv), .ro (c.y.map qsv), .ro (c.ray.map qsv)] ++ (qsv c.value).cells)
@[simp] theorem clP_csz (c : Clm) : (clP c).csz = 8 := rfl
@[simp] theorem clP_isTup (c : Clm) : (clP c).isTup = false := rfl
@[simp] theorem clP_isAgg (c : Clm) : (clP c).isAgg = true := rfl
@[simp] theorem clP_one (c : Clm) : (clP c).one = false := rfl
@[simp] theorem clP_pure (c : Clm) : (clP c).pure = true := rfl
@[simp] theorem clP_lt (n : Nat) (c : Clm) : (clP c).lt n = true := rfl
@[simp] theorem clP_uses (n : Nat) (c : Clm) : (clP c).uses n = false := rfl
@[simp] theorem clP_ks (c : Clm) : (clP c).ks = [] := rfl
@[simp] theorem clP_f0 (c : Clm) : lget (clP c).cells 0 = iv c.kind := rfl
@[simp] theorem clP_f1 (c : Clm) : lget (clP c).cells 1 = .ro (c.x.map qsv) := rfl
@[simp] theorem clP_f2 (c : Clm) : lget (clP c).cells 2 = .ro (c.y.map qsv) := rfl
@[simp] theorem clP_f3 (c : Clm) : lget (clP c).cells 3 = .ro (c.ray.map qsv) := rfl
@[simp] theorem clP_f4 (c : Clm) : SV.agg (((clP c).cells.drop 4).take 4) = qsv c.value := rfl
@[simp] theorem clP_val (c : Clm) : SV.agg (List.take 4 (clP c).cells.tail.tail.tail.tail) = qsv c.value := rfl
@[simp] theorem clP_val' (c : Clm) : SV.agg (List.take 4 (List.drop 4 (clP c).cells)) = qsv c.value := rfl
def clX (c : ClmT) : SV := .agg ([iv c.kind, .ro (sdX c.x), .ro (sdX c.y), .ro (sdX c.ray)] ++ (qb (saidB c.value)).cells)
@[simp] theorem clX_csz (c : ClmT) : (clX c).csz = 8 := rfl
@[simp] theorem clX_isTup (c : ClmT) : (clX c).isTup = false := rfl
@[simp] theorem clX_isAgg (c : ClmT) : (clX c).isAgg = true := rfl
@[simp] theorem clX_one (c : ClmT) : (clX c).one = false := rfl
@[simp] theorem clX_pure (c : ClmT) : (clX c).pure = true := rfl
@[simp] theorem clX_lt (n : Nat) (c : ClmT) : (clX c).lt n = true := rfl
@[simp] theorem clX_uses (n : Nat) (c : ClmT) : (clX c).uses n = false := rfl
@[simp] theorem clX_ks (c : ClmT) : (clX c).ks = [] := rfl
@[simp] theorem clX_f0 (c : ClmT) : lget (clX c).cells 0 = iv c.kind := rfl
@[simp] theorem clX_f1 (c : ClmT) : lget (clX c).cells 1 = .ro (sdX c.x) := rfl
@[simp] theorem clX_f2 (c : ClmT) : lget (clX c).cells 2 = .ro (sdX c.y) := rfl
@[simp] theorem clX_f3 (c : ClmT) : lget (clX c).cells 3 = .ro (sdX c.ray) := rfl
@[simp] theorem clX_f4 (c : ClmT) : SV.agg (((clX c).cells.drop 4).take 4) = qb (saidB c.value) := rfl
def okClS (c : ClmT) : Bool := okSds c.x && okSds c.y && okSds c.ray && okSd c.value
theorem okClS_short {c : ClmT} (h : shClm c = true) : okClS c = okCl c := by
  unfold shClm at h
  simp only [Bool.and_eq_true, decide_eq_true_eq] at h
  unfold okClS okCl
  rw [okSds_short h.1.1.1, okSds_short h.1.1.2, okSds_short h.1.2, okSd_short h.2]
theorem clX_short {c : ClmT} (h : shClm c = true) (ho : okCl c = true) : clX c = clP (clOf c) := by
  unfold shClm at h
  simp only [Bool.and_eq_true, decide_eq_true_eq] at h
  unfold okCl at ho
  simp only [Bool.and_eq_true] at ho
  have hv : okSd c.value = true := by rw [okSd_short h.2]; exact ho.2
  unfold clX
  rw [sdX_short h.1.1.1, sdX_short h.1.1.2, sdX_short h.1.2]
  unfold saidB
  rw [if_pos hv, sd_short h.2]
  rfl
@[simp] theorem spP_g0 (s : Sp) : lget (spP s).cells 0 = .val (.bool s.lo.has) := rfl
@[simp] theorem spP_g5 (s : Sp) : lget (spP s).cells 5 = .val (.bool s.hi.has) := rfl
@[simp] theorem spP_t1 (s : Sp) : SV.agg (List.take 4 (spP s).cells.tail) = qb s.lo := rfl
@[simp] theorem spP_t6 (s : Sp) : SV.agg (List.take 4 (List.drop 6 (spP s).cells)) = qb s.hi := rfl
theorem okSds_no {l : List ByteArray} {i : Nat} (h : i < l.length) (hq : okSd (gt l i) = false) : okSds l = false := all_no h hq
theorem gt_sds {l : List ByteArray} {i : Nat} (h : i < l.length) : gt (sds l) i = (sd (gt l i)).1 := by unfold sds; rw [gt_map _ h]
theorem okSds_yes {l : List ByteArray} (h : ∀ k, k < l.length → okSd (gt l k) = true) : okSds l = true := by
  unfold okSds
  rw [List.all_eq_true]
  intro s hs
  obtain ⟨i, hi, rfl⟩ := List.getElem_of_mem hs
  rw [gt_get hi]; exact h i hi
theorem end_iff (p : Prob) (c : Clm) : ((decide (0 < gainK p c.ray p.cols.length) && p.max) || (decide (gainK p c.ray p.cols.length < 0) && !p.max)) = (decide (gainK p c.ray p.cols.length ≠ 0) && (decide (0 < gainK p c.ray p.cols.length) == p.max)) := by
  generalize gainK p c.ray p.cols.length = g
  cases p.max <;> by_cases h1 : 0 < g <;> by_cases h2 : g < 0 <;> simp [h1, h2] <;> grind
end Go.Li
namespace Go.Proofs
open Go.Sv Go Go.Tb Go.Pl Go.Ut Go.Li
theorem rSaid1_ok (s : ByteArray) (h : s.size ≤ 1048576) : PureF Tryz.prog 116 [.val (.string s)] (.tup [qb (saidB s), fsv (sd s).2.1 (if (sd s).2.1 = 0 then -1 else ((sd s).2.2 : Int))]) := by
  have g := pqread_ok s (s.size + 1) (by omega) (by omega) (by omega)
  have e : outP (qrd (s.size + 1) s) = .tup [qb (saidB s), fsv (sd s).2.1 (if (sd s).2.1 = 0 then -1 else ((sd s).2.2 : Int))] := by
    show outP (sd s) = _
    unfold outP saidB okSd
    generalize sd s = r
    by_cases c : r.2.1 = 0 <;> simp [c, qb_some, qb_none]
  rw [e] at g
  refine pure_enter Tryz.func116 rfl (by simp) (fun C hC => ?_)
  simp (disch := omega) [w64]
  repeat (refine And.intro (by omega) ?_)
  refine callS (g) (by simp) ?_
  simp [fsv]
set_option maxRecDepth 10000 in
theorem rSaids_ok (l : List ByteArray) (h : SmN l) : PureF Tryz.prog 115 [.ro (l.map strv)] (.tup [.ro (sdX l), .val (.bool (okSds l))]) := by
  have hl := h.n
  have hsl : (sds l).length = l.length := by simp [sds]
  refine pure_enter Tryz.func115 rfl (by simp) (fun C hC => ?_)
  simp
  refine CodeJ.nil 4 4 rfl ?_
  refine CodeJ.loopL (ι := Nat) (fun i => ⟨30, [(0, .ro (l.map strv)), (4, .view 0 0 i), (5, iv i)], [some ⟨4, ((sds l).take i).map qsv, false⟩]⟩)
    (fun i => i ≤ l.length ∧ ∀ k, k < i → okSd (gt l k) = true) (fun i => l.length - i) 0 (by simp) ?_ ?_
  · simp [leS, hC]
  · rintro i ⟨hi, hk⟩
    by_cases hlt : i < l.length
    · have hsz := h.s _ (gt_mem hlt)
      simp (disch := omega) [hlt, lget_str]
      repeat (refine And.intro (by omega) ?_)
      refine callS (rSaid1_ok (gt l i) hsz) (by simp) ?_
      simp [fsv]
      cases hq : okSd (gt l i) with
      | true =>
        have hc : (sd (gt l i)).2.1 = 0 := of_decide_eq_true hq
        have hb : qb (saidB (gt l i)) = qsv (sd (gt l i)).1 := by unfold saidB; rw [if_pos hq]; rfl
        simp (disch := omega) [hc, hb, w64]
        repeat (refine And.intro (by omega) ?_)
        exact ⟨⟨by simp [hC], by omega⟩, i + 1, ⟨by omega, stp hk hq⟩, by omega, Le.syn (by simp (disch := omega) [leS, hC, w64, take1 qsv (show i < (sds l).length by omega), gt_sds hlt])⟩
      | false =>
        have hc : ¬ (sd (gt l i)).2.1 = 0 := of_decide_eq_false hq
        simp [hc, okSds_no hlt hq, sdX]
    · obtain rfl : i = l.length := by omega
      have := okSds_yes hk
      simp [this, sdX, List.take_of_length_le, hsl]
set_option maxRecDepth 10000 in
theorem rClaim_ok (c : ClmT) (h : SmCl c) : PureF Tryz.prog 47 [clT c] (.tup [clX c, .val (.bool (okClS c))]) := by
  have g1 := rSaids_ok c.x h.x
  have g2 := rSaids_ok c.y h.y
  have g3 := rSaids_ok c.ray h.r
  have g4 := rSaid1_ok c.value h.v
  refine pure_enter Tryz.func47 rfl (by simp) (fun C hC => ?_)
  simp
  refine callS (g1) (by simp) ?_
  simp
  refine callS (g2) (by simp) ?_
  simp
  refine callS (g3) (by simp) ?_
  simp
  refine callS (g4) (by simp) ?_
  simp [fsv]
  refine CodeJ.draw (.qs [0, 1, 2, 3, 4, 5, 6, 7, 8, 9, 10, 11, 12, 13, 14, 15] <| .q 16 [1] <| .qs [17, 18] <| .l 19 [1] <| .qs [20] <| .nil) (by kernel_rfl) (by kernel_rfl) (by simp) ?_
  simp
  have e : SV.agg (.val (.int .i64 c.kind) :: .ro (sdX c.x) :: .ro (sdX c.y) :: .ro (sdX c.ray) :: (qb (saidB c.value)).cells) = clX c := rfl
  rw [e]
  simp
  repeat' (apply And.intro <;> intro _)
  all_goals simp [okClS, okSd, *]
theorem rOut_ok (a b : Bo) (r : Rat) : PureF Tryz.prog 183 [boP a, boP b, qsv r] (bov (outB a b r)) := by
  refine pure_enter Tryz.func183 rfl (by simp) (fun C hC => ?_)
  simp
  refine callS (sgnP r) (by simp) ?_
  simp
  repeat' (apply And.intro <;> intro _)
  all_goals first | (simp [outB, *]; done) | (exfalso; grind)
theorem rCross1_ok (a b : Bo) (ha : qok a.at') (hb : qok b.at') : PureF Tryz.prog 228 [boP a, boP b] (bov (crossB a b)) := by
  refine pure_enter Tryz.func228 rfl (by simp) (fun C hC => ?_)
  simp
  refine ⟨fun h1 => ⟨fun h2 => by simp [crossB, h1, h2], fun h2 => ?_⟩, fun h1 => by simp [crossB, h1]⟩
  rw [qb_has h1, qb_has h2]
  refine callS (cmpP a.at' b.at' ha hb) (by simp) ?_
  simp [crossB, h1, h2]
set_option maxRecDepth 10000 in
theorem rCrossed_ok (p : Prob) (h : Few p) (hw : ProbW p) : PureF Tryz.prog 180 [probP p] (bov (crossedB p)) := by
  have nc := h.nc
  have nr := h.nr
  refine pure_enter Tryz.func180 rfl (by simp) (fun C hC => ?_)
  simp
  refine CodeJ.loopL (ι := Nat) (fun j => ⟨49, [(1, .ptr 0 0 0), (3, iv j)], [some ⟨7, [probP p], false⟩]⟩)
    (fun j => j ≤ p.cols.length ∧ ∀ k, k < j → crossB (gt p.cols k).low (gt p.cols k).high = false) (fun j => p.cols.length - j) 0 (by simp) ?_ ?_
  · simp [leS, hC]
  · rintro j ⟨hj, hb⟩
    by_cases hlt : j < p.cols.length
    · have w2 := hw.co j hlt
      simp (disch := omega) [hlt, lget_colP]
      repeat (refine And.intro (by omega) ?_)
      refine CodeJ.draw (.qs [0, 1, 2, 3, 4, 5, 6, 7, 8, 9, 10, 11] <| .l 12 [] <| .qs [13] <| .nil) (by kernel_rfl) (by kernel_rfl) (by simp) ?_
      simp (disch := omega) [hlt, lget_colP]
      repeat (refine And.intro (by omega) ?_)
      refine callS (rCross1_ok (gt p.cols j).low (gt p.cols j).high (qok_of w2.2.1 (by omega)) (qok_of w2.2.2 (by omega))) (by simp) ?_
      simp (disch := omega) [w64]
      repeat (refine And.intro (by omega) ?_)
      exact ⟨fun q => crossed_at hlt q, fun q => ⟨j + 1, ⟨by omega, stp hb q⟩, by omega, Le.syn (by simp (disch := omega) [leS, hC, w64])⟩⟩
    · obtain rfl : j = p.cols.length := by omega
      simp
      refine CodeJ.loopL (ι := Nat) (fun i => ⟨49, [(1, .ptr 0 0 0), (5, iv i)], [some ⟨7, [probP p], false⟩]⟩)
        (fun i => i ≤ p.rows.length ∧ ∀ k, k < i → crossB (gt p.rows k).low (gt p.rows k).high = false) (fun i => p.rows.length - i) 0 (by simp) ?_ ?_
      · simp [leS, hC]
      · rintro i ⟨hi, hr⟩
        by_cases hlt : i < p.rows.length
        · have w2 := hw.ro i hlt
          simp (disch := omega) [hlt, lget_rowP]
          repeat (refine And.intro (by omega) ?_)
          refine CodeJ.draw (.qs [0, 1, 2, 3, 4, 5, 6, 7, 8, 9, 10, 11] <| .l 12 [] <| .qs [13] <| .nil) (by kernel_rfl) (by kernel_rfl) (by simp) ?_
          simp (disch := omega) [hlt, lget_rowP]
          repeat (refine And.intro (by omega) ?_)
          refine callS (rCross1_ok (gt p.rows i).low (gt p.rows i).high (qok_of w2.1 (by omega)) (qok_of w2.2 (by omega))) (by simp) ?_
          simp (disch := omega) [w64]
          repeat (refine And.intro (by omega) ?_)
          exact ⟨fun q => crossed_atR hlt q, fun q => ⟨i + 1, ⟨by omega, stp hr q⟩, by omega, Le.syn (by simp (disch := omega) [leS, hC, w64])⟩⟩
        · obtain rfl : i = p.rows.length := by omega
          simp [crossed_nil hb hr]
theorem rHoldsL_ok (p : Prob) (h : Few p) (hw : ProbW p) (hv : validC p = 0) (x : List Rat) (hx : Wd 2200 x) : PureF Tryz.prog 33 [probP p, .ro (x.map qsv), bov false] (bov (holdsL p x)) := by
  by_cases hl : x.length = p.cols.length
  · have := rHolds_ok p h hw hv x hx hl false
    simpa [holdsL, hl] using this
  · have := rHoldsNo_ok p x hl false
    simpa [holdsL, hl] using this
set_option maxRecDepth 10000 in
theorem rBest_ok (p : Prob) (h : Few p) (hw : ProbW p) (hv : validC p = 0) (c : Clm) (hc : ClW c) : PureF Tryz.prog 117 [probP p, clP c] (bov (bestB p c)) := by
  have nr := h.nr
  have ny := hc.ny
  have nra := hc.nr
  obtain ⟨v1, v2, v3⟩ := valid_yes hv
  refine pure_enter Tryz.func117 rfl (by simp) (fun C hC => ?_)
  simp
  refine callS (rHoldsL_ok p h hw hv c.x hc.x) (by simp) ?_
  simp
  refine ⟨fun h1 => ⟨fun h2 => ?_, fun h2 => ?_⟩, fun h1 => by simp [bestB, h1]⟩
  · have hy : c.y.length = p.rows.length := by omega
    refine ⟨fun h3 => ?_, fun h3 => ?_⟩
    · have : c.ray ≠ [] := fun e => by rw [e] at h3; simp at h3
      simp [bestB, this]
    have hx : c.x.length = p.cols.length := by
      unfold holdsL at h1
      simp only [Bool.and_eq_true, decide_eq_true_eq] at h1
      exact h1.1
    have wv := qw_valK hw hc.x (by omega) p.cols.length (by omega)
    have wl : qok (limB p c.y).at' := by
      have := spW_C hw hc.y (by omega) v1 p.cols.length (by omega)
      unfold limB; split
      · exact qok_of (by assumption : spW _ _).2 (by omega)
      · exact qok_of (by assumption : spW _ _).1 (by omega)
    refine callS (rValue_ok p h hw c.x hc.x hx) (by simp) ?_
    simp
    refine callS (rLimit_ok p h hw v1 v2 c.y hc.y hy) (by simp) ?_
    simp
    refine ⟨fun h4 => by simp [bestB, h4], fun h4 => ?_⟩
    refine callS (cmpP _ c.value (qok_of wv (by omega)) (qok_of hc.v (by omega))) (by simp) ?_
    simp
    refine callS (cmpP (limB p c.y).at' c.value wl (qok_of hc.v (by omega))) (by simp) ?_
    simp
    have hb : ∀ a b : Bool, a = b ↔ (a = true ↔ b = true) := fun a b => by cases a <;> cases b <;> simp
    rw [hb]
    simp [bestB, h1, hy, h3, h4]
    grind
  · have : ¬ c.y.length = p.rows.length := by omega
    simp [bestB, this]
set_option maxRecDepth 10000 in
theorem rEnd_ok (p : Prob) (h : Few p) (hw : ProbW p) (hv : validC p = 0) (c : Clm) (hc : ClW c) : PureF Tryz.prog 119 [probP p, clP c] (bov (endB p c)) := by
  have nc := h.nc
  have nr := h.nr
  have ny := hc.ny
  have nra := hc.nr
  refine pure_enter Tryz.func119 rfl (by simp) (fun C hC => ?_)
  simp
  refine callS (rHoldsL_ok p h hw hv c.x hc.x) (by simp) ?_
  simp
  refine callS (sgnP c.value) (by simp) ?_
  simp
  have noC := fun j (hj : j < p.cols.length) (e : outCl p c.ray j = false) => show endB p c = false by unfold endB; rw [rng_no hj e]; simp
  have noR := fun j (hj : j < p.rows.length) (e : outRw p c.ray j = false) => show endB p c = false by unfold endB; rw [rng_no hj e]; simp
  refine ⟨fun h1 => ⟨fun h2 => ⟨fun h3 => ⟨fun h4 => by simp [endB, h4], fun h4 => ?_⟩, fun h3 => ?_⟩, fun h2 => ?_⟩, fun h1 => by simp [endB, h1]⟩
  · have hl : c.ray.length = p.cols.length := by omega
    refine callS (zeroP) (by simp) ?_
    simp
    refine CodeJ.loopL (ι := Nat) (fun j => ⟨133, [(2, .ptr 0 0 0), (3, .ptr 1 0 0), (7, .ptr 2 0 0), (8, iv j)], [some ⟨7, [probP p], false⟩, some ⟨8, [clP c], false⟩, some ⟨4, [qsv (gainK p c.ray j)], false⟩]⟩)
      (fun j => j ≤ p.cols.length ∧ ∀ k, k < j → outCl p c.ray k = true) (fun j => p.cols.length - j) 0 (by simp) ?_ ?_
    · simp [leS, hC, gainK]
      done
    · rintro j ⟨hj, hb⟩
      by_cases hlt : j < p.cols.length
      · have w1 := qw_gain hw hc.r (by omega) j (by omega)
        have w2 := hc.r j (by omega)
        have w3 := (hw.co j hlt).1
        have w4 := (hw.co j hlt).2
        simp (disch := omega) [hlt]
        repeat (refine And.intro (by omega) ?_)
        refine CodeJ.drawZ (.d 12 <| .qs [0, 1, 2, 3, 4, 5, 6, 7, 8, 9, 10] <| .p 11 <| .b (.l 13 [3] <| .nil)) (by kernel_rfl) (by kernel_rfl) (by simp) ?_
        simp (disch := omega) [hlt, lget_colP, lget_q]
        repeat (refine And.intro (by omega) ?_)
        refine callV (pMul_ok _ _ (qok_of w3 (by omega)) (qok_of w2 (by omega))) (by simp) ?_
        simp
        refine callS (pAdd_ok _ _ (qok_of w1 (by omega)) (qok_of (qw_mul w3 w2 (by omega)) (by omega))) (by simp) ?_
        simp
        refine CodeJ.draw (.qs [0, 1, 2, 3, 4, 5, 6, 7, 8, 9, 10, 11, 12, 13, 14, 15, 16] <| .l 17 [] <| .qs [18] <| .nil) (by kernel_rfl) (by kernel_rfl) (by simp) ?_
        simp (disch := omega) [hlt, lget_colP, lget_q]
        repeat (refine And.intro (by omega) ?_)
        refine callS (rOut_ok (gt p.cols j).low (gt p.cols j).high (gt c.ray j)) (by simp) ?_
        simp (disch := omega) [w64]
        repeat (refine And.intro (by omega) ?_)
        exact ⟨fun q => noC j hlt q, fun q => ⟨j + 1, ⟨by omega, stp hb q⟩, by omega, Le.syn (by simp (disch := omega) [leS, hC, w64, gainK])⟩⟩
      · obtain rfl : j = p.cols.length := by omega
        simp
        refine CodeJ.loopL (ι := Nat) (fun i => ⟨133, [(2, .ptr 0 0 0), (3, .ptr 1 0 0), (7, .ptr 2 0 0), (11, iv i)], [some ⟨7, [probP p], false⟩, some ⟨8, [clP c], false⟩, some ⟨4, [qsv (gainK p c.ray p.cols.length)], false⟩]⟩)
          (fun i => i ≤ p.rows.length ∧ ∀ k, k < i → outRw p c.ray k = true) (fun i => p.rows.length - i) 0 (by simp) ?_ ?_
        · simp [leS, hC]
        · rintro i ⟨hi, hr⟩
          by_cases hlt : i < p.rows.length
          · have to := terms_ok hw hv hl hlt
            have nt := h.nt i hlt
            simp (disch := omega) [hlt]
            repeat (refine And.intro (by omega) ?_)
            refine CodeJ.drawZ (.d 8 <| .qs [0, 1, 2, 3, 4, 5, 6] <| .p 7 <| .b (.l 9 [3] <| .nil)) (by kernel_rfl) (by kernel_rfl) (by simp) ?_
            simp (disch := omega) [hlt, lget_rowP]
            repeat (refine And.intro (by omega) ?_)
            refine callV (rSum_ok (gt p.rows i) nt c.ray hc.r to) (by simp) ?_
            simp
            refine CodeJ.draw (.qs [0, 1, 2, 3, 4, 5, 6, 7, 8, 9, 10, 11, 12] <| .l 13 [] <| .qs [14] <| .nil) (by kernel_rfl) (by kernel_rfl) (by simp) ?_
            simp (disch := omega) [hlt, lget_rowP]
            repeat (refine And.intro (by omega) ?_)
            refine callS (rOut_ok (gt p.rows i).low (gt p.rows i).high (rowS p c.ray i)) (by simp) ?_
            simp (disch := omega) [w64]
            repeat (refine And.intro (by omega) ?_)
            exact ⟨fun q => noR i hlt q, fun q => ⟨i + 1, ⟨by omega, stp hr q⟩, by omega, Le.syn (by simp (disch := omega) [leS, hC, w64])⟩⟩
          · obtain rfl : i = p.rows.length := by omega
            simp
            refine callS (sgnP (gainK p c.ray p.cols.length)) (by simp) ?_
            simp
            have eC := rng_yes hb
            have eR := rng_yes hr
            have e0 : endB p c = (decide (gainK p c.ray p.cols.length ≠ 0) && (decide (0 < gainK p c.ray p.cols.length) == p.max)) := by
              unfold endB
              rw [eC, eR]
              simp [h1, hl, h3, h4]
            rw [e0, ← end_iff]
            generalize gainK p c.ray p.cols.length = g
            repeat' (apply And.intro <;> intro _)
            all_goals first | (simp [*]; done) | (exfalso; grind)
  · have : c.y ≠ [] := fun e => by rw [e] at h3; simp at h3
    simp [endB, this]
  · have : ¬ c.ray.length = p.cols.length := by omega
    simp [endB, this]
set_option maxRecDepth 10000 in
theorem rNone_ok (p : Prob) (h : Few p) (hw : ProbW p) (hv : validC p = 0) (c : Clm) (hc : ClW c) : PureF Tryz.prog 118 [probP p, clP c] (bov (noneB p c)) := by
  have nc := h.nc
  have nr := h.nr
  have ny := hc.ny
  have nx := hc.nx
  have nra := hc.nr
  refine pure_enter Tryz.func118 rfl (by simp) (fun C hC => ?_)
  simp
  refine callS (sgnP c.value) (by simp) ?_
  simp
  refine ⟨fun h1 => ⟨fun h2 => ⟨fun h3 => by simp [noneB, h3], fun h3 => ⟨fun h4 => ?_, fun h4 => ?_⟩⟩, fun h2 => ?_⟩, fun h1 => ?_⟩
  · refine callS (rCrossed_ok p h hw) (by simp) ?_
    simp [noneB, h1, h2, h3, h4]
  · refine ⟨fun h5 => ?_, fun h5 => ?_⟩
    · have : ¬ c.y.length = p.rows.length := by omega
      simp [noneB, h4, this]
    · have hl : c.y.length = p.rows.length := by omega
      obtain ⟨v1, v2, v3⟩ := valid_yes hv
      refine callS (zeroP) (by simp) ?_
      simp
      refine callS (rExact_ok 0) (by simp) ?_
      simp
      refine CodeJ.loopL (ι := Nat) (fun i => ⟨139, [(2, .ptr 0 0 0), (3, .ptr 1 0 0), (6, .ptr 2 0 0), (7, iv i)], [some ⟨7, [probP p], false⟩, some ⟨8, [clP c], false⟩, some ⟨10, [spP (noR p c.y i)], false⟩]⟩)
        (fun i => i ≤ p.rows.length) (fun i => p.rows.length - i) 0 (by simp) ?_ ?_
      · simp [leS, hC, noR]
        done
      · rintro i hi
        by_cases hlt : i < p.rows.length
        · have w1 := spW_noR hw hc.y (by omega) i (by omega)
          have w2 := hw.ro i hlt
          have w3 := hc.y i (by omega)
          simp (disch := omega) [hlt, lget_rowP]
          repeat (refine And.intro (by omega) ?_)
          refine CodeJ.draw (.qs [0, 1, 2, 3, 4, 5, 6, 7, 8, 9, 10, 11, 12, 13, 14, 15, 16, 17] <| .l 18 [] <| .l 19 [2] <| .nil) (by kernel_rfl) (by kernel_rfl) (by simp) ?_
          simp (disch := omega) [hlt, lget_rowP, lget_q]
          repeat (refine And.intro (by omega) ?_)
          refine callS (rSpan_ok (noR p c.y i) (gt p.rows i).low (gt p.rows i).high (gt c.y i) ⟨qok_of w1.1 (by omega), qok_of w1.2 (by omega)⟩ (qok_of w2.1 (by omega)) (qok_of w2.2 (by omega)) (qok_of w3 (by omega)) ⟨qok_of (qw_mul w2.1 w3 (by omega)) (by omega), qok_of (qw_mul w2.2 w3 (by omega)) (by omega)⟩) (by simp) ?_
          simp (disch := omega) [w64]
          repeat (refine And.intro (by omega) ?_)
          exact ⟨i + 1, by omega, by omega, Le.syn (by simp (disch := omega) [leS, hC, w64, noR])⟩
        · obtain rfl : i = p.rows.length := by omega
          simp
          refine callS (zeroP) (by simp) ?_
          simp
          refine callS (rExact_ok 0) (by simp) ?_
          simp
          refine CodeJ.loopL (ι := Nat) (fun j => ⟨139, [(2, .ptr 0 0 0), (3, .ptr 1 0 0), (6, .ptr 2 0 0), (8, .ptr 3 0 0), (9, iv j)], [some ⟨7, [probP p], false⟩, some ⟨8, [clP c], false⟩, some ⟨10, [spP (noR p c.y p.rows.length)], false⟩, some ⟨10, [spP (noC p c.y j)], false⟩]⟩)
            (fun j => j ≤ p.cols.length) (fun j => p.cols.length - j) 0 (by simp) ?_ ?_
          · simp [leS, hC, noC]
            done
          · rintro j hj
            by_cases hjl : j < p.cols.length
            · simp (disch := omega) [hjl]
              repeat (refine And.intro (by omega) ?_)
              refine callS (zeroP) (by simp) ?_
              simp
              refine CodeJ.loopL (ι := Nat) (fun i => ⟨139, [(2, .ptr 0 0 0), (3, .ptr 1 0 0), (6, .ptr 2 0 0), (8, .ptr 3 0 0), (9, iv j), (10, .ptr 4 0 0), (11, iv i)], [some ⟨7, [probP p], false⟩, some ⟨8, [clP c], false⟩, some ⟨10, [spP (noR p c.y p.rows.length)], false⟩, some ⟨10, [spP (noC p c.y j)], false⟩, some ⟨4, [qsv (gS p c.y j i)], false⟩]⟩)
                (fun i => i ≤ p.rows.length) (fun i => p.rows.length - i) 0 (by simp) ?_ ?_
              · simp [leS, hC, gS]
                done
              · rintro i hi
                by_cases hil : i < p.rows.length
                · have w1 := qw_gS hw hc.y (by omega) hjl i (by omega)
                  have w2 : qw 2200 (entT (gt p.rows i).terms j) := qw_entT (by omega) (hw.te i hil)
                  have w3 := hc.y i (by omega)
                  simp (disch := omega) [hil]
                  repeat (refine And.intro (by omega) ?_)
                  refine CodeJ.drawZ (.d 13 <| .qs [0, 1, 2, 3, 4, 5, 6, 7, 8, 9, 10] <| .p 11 <| .p 12 <| .b (.l 14 [5] <| .nil)) (by kernel_rfl) (by kernel_rfl) (by simp) ?_
                  simp (disch := omega) [hil, lget_rowP, lget_q]
                  repeat (refine And.intro (by omega) ?_)
                  refine callV (rEntry_ok (gt p.rows i) (h.nt i hil) j (by omega)) (by simp) ?_
                  simp
                  refine callV (pMul_ok (gt c.y i) (entT (gt p.rows i).terms j) (qok_of w3 (by omega)) (qok_of w2 (by omega))) (by simp) ?_
                  simp
                  refine callS (pAdd_ok (gS p c.y j i) (gt c.y i * entT (gt p.rows i).terms j) (qok_of w1 (by omega)) (qok_of (qw_mul w3 w2 (by omega)) (by omega))) (by simp) ?_
                  simp (disch := omega) [w64]
                  repeat (refine And.intro (by omega) ?_)
                  exact ⟨i + 1, by omega, by omega, Le.syn (by simp (disch := omega) [leS, hC, w64, gS])⟩
                · obtain rfl : i = p.rows.length := by omega
                  have w1 := spW_noC hw hc.y (by omega) v1 j (by omega)
                  have w2 := hw.co j hjl
                  have w3 := qw_gS hw hc.y (by omega) hjl p.rows.length (Nat.le_refl _)
                  have ge := gS_eq (y := c.y) hjl p.rows.length
                  simp (disch := omega) [hjl, lget_colP]
                  repeat (refine And.intro (by omega) ?_)
                  refine CodeJ.draw (.qs [0, 1, 2, 3, 4, 5, 6, 7, 8, 9, 10, 11, 12, 13] <| .l 14 [] <| .l 15 [3] <| .nil) (by kernel_rfl) (by kernel_rfl) (by simp) ?_
                  simp (disch := omega) [hjl, lget_colP]
                  repeat (refine And.intro (by omega) ?_)
                  refine callS (rSpan_ok (noC p c.y j) (gt p.cols j).low (gt p.cols j).high (gS p c.y j p.rows.length) ⟨qok_of w1.1 (by omega), qok_of w1.2 (by omega)⟩ (qok_of w2.2.1 (by omega)) (qok_of w2.2.2 (by omega)) (qok_of w3 (by omega)) ⟨qok_of (qw_mul w2.2.1 w3 (by omega)) (by omega), qok_of (qw_mul w2.2.2 w3 (by omega)) (by omega)⟩) (by simp) ?_
                  simp (disch := omega) [w64]
                  repeat (refine And.intro (by omega) ?_)
                  exact ⟨j + 1, by omega, by omega, Le.syn (by simp (disch := omega) [leS, hC, w64, noC, ge])⟩
            · obtain rfl : j = p.cols.length := by omega
              have wr := spW_noR hw hc.y (by omega) p.rows.length (by omega)
              have wc := spW_noC hw hc.y (by omega) v1 p.cols.length (by omega)
              simp
              have e0 : noneB p c = farkB p c.y := by
                unfold noneB
                rw [if_neg (by simpa using h4)]
                simp [h1, h2, h3, hl]
              rw [e0]
              refine ⟨fun q1 => ⟨fun q2 => by simp [farkB, overB, q1, q2], fun q2 => ?_⟩, fun q1 => by simp [farkB, overB, q1]⟩
              rw [qb_has q1, qb_has q2]
              refine callS (cmpP _ _ (qok_of wr.1 (by omega)) (qok_of wc.2 (by omega))) (by simp) ?_
              simp [farkB, overB, q1, q2]
  · have : c.ray ≠ [] := fun e => by rw [e] at h2; simp at h2
    simp [noneB, this]
  · have : c.x ≠ [] := fun e => by rw [e] at h1; simp at h1
    simp [noneB, this]
theorem rCheck_ok (p : Prob) (h : Few p) (hw : ProbW p) (hv : validC p = 0) (c : Clm) (hc : ClW c) : PureF Tryz.prog 50 [probP p, clP c] (bov (chkB p c)) := by
  refine pure_enter Tryz.func50 rfl (by simp) (fun C hC => ?_)
  simp
  refine ⟨fun h1 => ?_, fun h1 => ⟨fun h2 => ?_, fun h2 => ⟨fun h3 => ?_, fun h3 => ?_⟩⟩⟩
  · refine callS (rBest_ok p h hw hv c hc) (by simp) ?_
    simp [chkB, h1]
  · refine callS (rNone_ok p h hw hv c hc) (by simp) ?_
    simp [chkB, h2]
  · refine callS (rEnd_ok p h hw hv c hc) (by simp) ?_
    simp [chkB, h3]
  · simp [chkB, h1, h2, h3]
set_option maxRecDepth 20000 in
theorem witnessChecks_ok (s : SpecT) (c : ClmT) (h : SmS s) (hc : SmCl c) :
    PureE Tryz.prog 6 [specT s, clT c] (fun x => x = .val (.bool true)) := by
  have gF := both_ok firstS sm_first few_first
  rw [prob_first, ok_first] at gF
  have fw1 : Few P1 := ⟨by decide, by decide, fun i hi => by
    match i, hi with
    | 0, _ => decide⟩
  have pw1 : ProbW P1 := by rw [← prob_first]; exact probW_of _
  have gG := qClaim_ok goodT sm_good
  rw [good_ok] at gG
  have gC := qCheck_ok P1 fw1 pw1 valid_first (clOf goodT) (clW_of sm_good)
  rw [good_chk] at gC
  refine pureE_enter Tryz.func6 rfl (by simp) (fun C hC hX hE => ?_)
  refine CodeJ.go ?_
  simp
  refine callS (first_ok) (by simp) ?_
  simp
  refine callS (gF) (by simp) ?_
  simp
  refine callNil ?_
  have z1 : nlV (specT s) = specT s := rfl
  have z2 : nlV (clT c) = clT c := rfl
  have z3 : nlV (probX firstS) = probX firstS := rfl
  simp [z1, z2, z3]
  refine callF gG (by simp [goodT, clT, s4, s1, s52, s17]) ?_
  simp
  refine callS (gC) (by simp) ?_
  simp
  have g3 := rClaim_ok c hc
  have g4 := claims_ok c hc
  have g5 := qClaim_ok c hc
  have cw := clW_of hc
  by_cases hf : fewB s = true
  · have gB := both_ok s h hf
    by_cases ho : okS s = true
    · rw [ho, probX_of ho] at gB
      have fw := few_of h
      have pw := probW_of s
      generalize probOf s = p at *
      have gv := rValid_ok p fw
      refine callS (gB) (by simp) ?_
      simp
      refine callS (g3) (by simp) ?_
      simp
      refine callS (g4) (by simp) ?_
      simp
      refine fun c1 c2 => ?_
      rw [okClS_short c2] at c1
      rw [clX_short c2 c1]
      refine callS (g5) (by simp) ?_
      simp
      generalize clOf c = m at *
      by_cases hv : validC p = 0
      · rw [hv] at gv
        refine callS (qCheck_ok p fw pw hv m cw) (by simp) ?_
        simp
        refine callS (gv) (by simp) ?_
        simp
        refine callS (rCheck_ok p fw pw hv m cw) (by simp) ?_
        simp
      · have hv' := valid_le p hv
        refine callS (qCheckE_ok p fw hv m) (by simp) ?_
        simp
        refine callS (gv) (by simp) ?_
        simp [hv'.1]
        refine callE (coded2_ok hv'.1 hv'.2 (validC p)) hE hX (by simp) (fun x hx => ?_)
        subst hx
        simp
    · have ho' : okS s = false := by simpa using ho
      rw [ho'] at gB
      refine callS (gB) (by simp) ?_
      simp
      refine callS (g3) (by simp) ?_
      simp
      refine callS (g4) (by simp) ?_
      simp
  · have gB := bothNo_ok s h (by simpa using hf)
    refine callS (gB) (by simp) ?_
    simp
    refine callS (g3) (by simp) ?_
    simp
    refine callS (g4) (by simp) ?_
    simp
end Go.Proofs

