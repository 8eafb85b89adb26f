/- Problems in texts, out of numbers; are two the same? A problem's twin; what is written into it is its own. The law: what a point costs in a problem, and whether it holds, as the document says. A text of the prover's own. -/
import Derived.Test.YtilpfpephcngbaaGreatDoorLJa
import Derived.Test.YtilpfpephcngbaaGreatDoorLKt
namespace Go.Li
open Go Go.Sv Go.Pl Go.Proofs Go.Tb Go.Ut
def colTx (c : Col) : ColT := ⟨c.name, c.whole, boT c.low, boT c.high, qtxt c.cost⟩
def specTx (p : Prob) : SpecT := ⟨p.max, qtxt p.shift, p.cols.map colTx, p.rows.map rowTx⟩
/-- ascending columns are no more than there are -/
theorem badT_len {n : Nat} {ts : List Term} (h : badT n (-1) ts = false) : ts.length ≤ n := by
  have key : ∀ k, k < ts.length → (k : Int) ≤ (gt ts k).col := fun k => by
    induction k with
    | zero => intro hk; have := (badT_ok h 0 hk).1; omega
    | succ k ih =>
      intro hk
      have h1 := ih (by omega)
      have h2 := (badT_ok h (k + 1) hk).2.2.2 k (by omega)
      omega
  rcases Nat.eq_zero_or_pos ts.length with e | e
  · omega
  · have h1 := key (ts.length - 1) (by omega)
    have h2 := (badT_ok h (ts.length - 1) (by omega)).2.1
    omega
theorem rowW_of {p : Prob} (hw : ProbW p) (hv : validC p = 0) {i : Nat} (hi : i < p.rows.length) : RowW (gt p.rows i) where
  n := by
    have := badT_len ((valid_yes hv).2.2 i hi)
    have := (valid_yes hv).2.1
    omega
  t := fun k hk => qw_mono (hw.te i hi k hk) (by omega)
  lo := qw_mono (hw.ro i hi).1 (by omega)
  hi := qw_mono (hw.ro i hi).2 (by omega)
theorem gt_colTx {p : Prob} {j : Nat} (h : j < p.cols.length) : gt (specTx p).cols j = colTx (gt p.cols j) := by unfold specTx; rw [gt_map _ h]
theorem gt_rowTx {p : Prob} {j : Nat} (h : j < p.rows.length) : gt (specTx p).rows j = rowTx (gt p.rows j) := by unfold specTx; rw [gt_map _ h]
end Go.Li
namespace Go.Proofs
open Go.Sv Go Go.Tb Go.Pl Go.Ut Go.Li
set_option maxRecDepth 10000 in
theorem qSpec_ok (p : Prob) (h : Few p) (hw : ProbW p) (hv : validC p = 0) : PureF Tryz.prog 98 [.rop (probQ p) 0] (specT (specTx p)) := by
  obtain ⟨v1, v2, v3⟩ := valid_yes hv
  have lc : (specTx p).cols.length = p.cols.length := by simp [specTx]
  have lr : (specTx p).rows.length = p.rows.length := by simp [specTx]
  have n1 : (specTx p).max = p.max := rfl
  have n2 : (specTx p).shift = qtxt p.shift := rfl
  refine pure_enterW Tryz.func98 rfl (by simp) (fun C hC => ?_)
  simp
  refine CodeJ.draw (.qs [0, 1, 2, 3, 4, 5, 6, 7, 9] <| .l 8 [] <| .l 10 [1] <| .qs [11] <| .l 12 [1] <| .nil) (by kernel_rfl) (by kernel_rfl) (by simp) ?_
  simp
  refine callS (qText_ok p.shift (qok_of hw.sh (by omega))) (by simp) ?_
  simp
  refine CodeJ.le (Le.nilCell 1 2 5 rfl rfl rfl rfl (by simp)) ?_
  simp [tset]
  refine CodeJ.le (Le.nilCell 1 3 5 rfl rfl rfl rfl (by simp)) ?_
  refine CodeJ.loopL (ι := Nat) (fun j => ⟨70, [(0, .rop (probQ p) 0), (2, .ptr 0 0 0), (3, .ptr 1 0 0), (26, .ro (p.cols.map colQ)), (27, iv p.cols.length), (28, iv j)], [some ⟨4, [.agg [.val (.bool false), .val (.string .empty), .val (.slice none 0 0), .val (.slice none 0 0)]], false⟩,
      some ⟨4, [.agg [bov p.max, strv (qtxt p.shift), .view 2 0 j, .view 3 0 0]], false⟩, some ⟨5, ((specTx p).cols.take j).map colT, false⟩, some ⟨5, [], false⟩]⟩)
    (fun j => j ≤ p.cols.length) (fun j => p.cols.length - j) 0 (by simp) ?_ ?_
  · simp [leS, hC, tset]
    done
  · rintro j hj
    by_cases hlt : j < p.cols.length
    · have wc := hw.co j hlt
      have g1 := gt_colTx hlt
      simp (disch := omega) [hlt, lget_colQ]
      repeat (refine And.intro (by omega) ?_)
      refine CodeJ.draw (.qs [0, 1, 2, 3, 4, 5, 6, 7, 9, 10, 12, 13] <| .l 8 [] <| .l 11 [] <| .l 14 [] <| .qs [15] <| .l 16 [] <| .l 17 [1000000] <| .qs [18] <| .l 19 [1, 1000000] <| .nil) (by kernel_rfl) (by kernel_rfl) (by simp) ?_
      simp
      refine callS (qBoText_ok (gt p.cols j).low (qok_of wc.2.1 (by omega))) (by simp) ?_
      simp
      refine callS (qBoText_ok (gt p.cols j).high (qok_of wc.2.2 (by omega))) (by simp) ?_
      simp
      refine callS (qText_ok (gt p.cols j).cost (qok_of wc.1 (by omega))) (by simp) ?_
      simp (disch := omega) [w64]
      repeat (refine And.intro (by omega) ?_)
      have em : SV.agg [SV.val (.string (gt p.cols j).name), SV.val (.bool (gt p.cols j).whole), SV.val (.string (boT (gt p.cols j).low)), SV.val (.string (boT (gt p.cols j).high)), SV.val (.string (qtxt (gt p.cols j).cost))] = colT (colTx (gt p.cols j)) := rfl
      exact ⟨⟨by simp [hC], by omega⟩, j + 1, by omega, by omega, Le.syn (by simp (disch := omega) [leS, hC, w64, take1 colT (show j < (specTx p).cols.length by omega), g1, em])⟩
    · obtain rfl : j = p.cols.length := by omega
      simp
      refine CodeJ.loopL (ι := Nat) (fun i => ⟨70, [(2, .ptr 0 0 0), (3, .ptr 1 0 0), (55, .ro (p.rows.map rowQ)), (56, iv p.rows.length), (57, iv i)], [some ⟨4, [.agg [.val (.bool false), .val (.string .empty), .val (.slice none 0 0), .val (.slice none 0 0)]], false⟩,
          some ⟨4, [.agg [bov p.max, strv (qtxt p.shift), .view 2 0 p.cols.length, .view 3 0 i]], false⟩, some ⟨5, (specTx p).cols.map colT, false⟩, some ⟨5, ((specTx p).rows.take i).map rowT, false⟩]⟩)
        (fun i => i ≤ p.rows.length) (fun i => p.rows.length - i) 0 (by simp) ?_ ?_
      · simp [leS, hC, List.take_of_length_le, lc]
        done
      · rintro i hi
        by_cases hlt : i < p.rows.length
        · have g1 := gt_rowTx hlt
          simp (disch := omega) [hlt, lget_rowQ]
          repeat (refine And.intro (by omega) ?_)
          refine CodeJ.draw (.qs [0, 1, 2] <| .l 3 [] <| .l 4 [] <| .l 5 [1000000] <| .qs [6] <| .l 7 [1, 1000000] <| .nil) (by kernel_rfl) (by kernel_rfl) (by simp) ?_
          simp
          refine callS (qRowSpec_ok (gt p.rows i) (rowW_of hw hv hlt)) (by simp) ?_
          simp (disch := omega) [w64]
          repeat (refine And.intro (by omega) ?_)
          exact ⟨⟨by simp [hC], by omega⟩, i + 1, by omega, by omega, Le.syn (by simp (disch := omega) [leS, hC, w64, take1 rowT (show i < (specTx p).rows.length by omega), g1])⟩
        · obtain rfl : i = p.rows.length := by omega
          simp
          refine ⟨_, (Le.frz 3 rfl (by simp)).trans (Le.frz 2 rfl (by simp)), ?_⟩
          have t1 : ((specTx p).rows.map rowT).take p.rows.length = (specTx p).rows.map rowT := List.take_of_length_le (by simp [lr])
          have t2 : ((specTx p).cols.map colT).take p.cols.length = (specTx p).cols.map colT := List.take_of_length_le (by simp [lc])
          simp [frzS, tset, lc, lr, t1, t2]
          have e : SV.agg [SV.val (.bool p.max), SV.val (.string (qtxt p.shift)), .ro ((specTx p).cols.map colT), .ro ((specTx p).rows.map rowT)] = specT (specTx p) := rfl
          rw [e]
          exact Sub_self _ _ rfl
theorem colT_neq {k : Nat} (c : ColT) : evBinP Tryz.prog .neq 159 (some (colT c)) (.tmp k) (some (colT c)) = .q True (.val (.bool false)) := by
  have e : eqTys Tryz.prog 159 = some [.str, .bool, .str, .str, .str] := by kernel_rfl
  show evAggEq .neq (eqTys Tryz.prog 159) [SV.val (.string c.name), SV.val (.bool c.whole), SV.val (.string c.low), SV.val (.string c.high), SV.val (.string c.cost)] [SV.val (.string c.name), SV.val (.bool c.whole), SV.val (.string c.low), SV.val (.string c.high), SV.val (.string c.cost)] = _
  rw [e]
  simp [evAggEq, aggEq, eqV]
set_option maxRecDepth 10000 in
theorem sameSpec_ok (t : SpecT) (h1 : t.cols.length ≤ 1048576) (h2 : t.rows.length ≤ 1048576) (h3 : ∀ i, i < t.rows.length → (gt t.rows i).cols.length ≤ 1048576 ∧ (gt t.rows i).nums.length ≤ 1048576) : PureF Tryz.prog 97 [specT t, specT t] (bov true) := by
  refine pure_enter Tryz.func97 rfl (by simp) (fun C hC => ?_)
  simp
  refine CodeJ.loopL (ι := Nat) (fun i => ⟨76, [(2, .ptr 0 0 0), (3, .ptr 1 0 0), (5, iv i)], [some ⟨4, [specT t], false⟩, some ⟨4, [specT t], false⟩]⟩)
    (fun i => i ≤ t.cols.length) (fun i => t.cols.length - i) 0 (by simp) ?_ ?_
  · simp [leS, hC]
  · rintro i hi
    by_cases hlt : i < t.cols.length
    · have lc := lget_colT hlt
      simp (disch := omega) [hlt, lc]
      repeat (refine And.intro (by omega) ?_)
      refine CodeJ.draw (.qs [0, 1, 2, 3, 4, 5, 6, 7, 8, 9, 10] <| .nil) (by kernel_rfl) (by kernel_rfl) (by simp) ?_
      simp (disch := omega) [hlt, lc, colT_neq, w64]
      repeat (refine And.intro (by omega) ?_)
      exact ⟨i + 1, by omega, by omega, Le.syn (by simp (disch := omega) [leS, hC, w64])⟩
    · obtain rfl : i = t.cols.length := by omega
      simp
      refine CodeJ.loopL (ι := Nat) (fun i => ⟨76, [(2, .ptr 0 0 0), (3, .ptr 1 0 0), (6, iv i)], [some ⟨4, [specT t], false⟩, some ⟨4, [specT t], false⟩]⟩)
        (fun i => i ≤ t.rows.length) (fun i => t.rows.length - i) 0 (by simp) ?_ ?_
      · simp [leS, hC]
      · rintro i hi
        by_cases hlt : i < t.rows.length
        · have lr := lget_rowT hlt
          simp (disch := omega) [hlt, lr]
          repeat (refine And.intro (by omega) ?_)
          refine CodeJ.draw (.qs [0, 1, 2, 3, 4, 5, 6, 7, 8, 9] <| .l 10 [] <| .qs [11] <| .nil) (by kernel_rfl) (by kernel_rfl) (by simp) ?_
          simp (disch := omega) [hlt, lr]
          repeat (refine And.intro (by omega) ?_)
          refine callS (sameRow_ok (gt t.rows i) (h3 i hlt).1 (h3 i hlt).2) (by simp) ?_
          simp (disch := omega) [w64]
          repeat (refine And.intro (by omega) ?_)
          exact ⟨i + 1, by omega, by omega, Le.syn (by simp (disch := omega) [leS, hC, w64])⟩
        · obtain rfl : i = t.rows.length := by omega
          simp
def colF (c : ColT) : Bool := decide (c.name.size ≤ 80) && decide (c.low.size ≤ 40) && decide (c.high.size ≤ 40) && decide (c.cost.size ≤ 40)
def rowF (r : RowT) : Bool := decide (r.name.size ≤ 80) && decide (r.low.size ≤ 40) && decide (r.high.size ≤ 40) && decide (r.cols.length ≤ 20) && decide (r.nums.length = r.cols.length) && r.nums.all fun s => decide (s.size ≤ 40)
def few5B (s : SpecT) : Bool := decide (s.cols.length ≤ 12) && decide (s.rows.length ≤ 12) && decide (s.shift.size ≤ 40) && s.cols.all colF && s.rows.all rowF
set_option maxRecDepth 10000 in
theorem fewS_ok (s : SpecT) (h : SmS s) : PureF Tryz.prog 22 [specT s] (bov (few5B s)) := by
  have nc := h.nc
  have nr := h.nr
  have ns := h.shift
  refine pure_enter Tryz.func22 rfl (by simp) (fun C hC => ?_)
  simp
  refine ⟨fun c1 => ⟨fun c2 => ⟨fun c3 => by simp [few5B]; omega, fun c3 => ?_⟩, fun c2 => by simp [few5B]; omega⟩, fun c1 => by simp [few5B]; omega⟩
  refine CodeJ.loopL (ι := Nat) (fun i => ⟨115, [(1, .ptr 0 0 0), (3, iv i)], [some ⟨4, [specT s], false⟩]⟩)
    (fun i => i ≤ s.cols.length ∧ (s.cols.take i).all colF = true) (fun i => s.cols.length - i) 0 (by simp) ?_ ?_
  · simp [leS, hC]
  · rintro i ⟨hi, ha⟩
    by_cases hlt : i < s.cols.length
    · have hc := h.cols i hlt
      have e1 := hc.low
      have e2 := hc.high
      have e3 := hc.cost
      have e4 := hc.name
      have no := fun (q : colF (gt s.cols i) = false) => show few5B s = false by unfold few5B; rw [all_no hlt q]; simp
      simp (disch := omega) [hlt, lget_colT, w64]
      repeat (refine And.intro (by omega) ?_)
      refine ⟨fun q1 => ⟨fun q2 => ⟨fun q3 => ⟨fun q4 => no ?_, fun q4 => ⟨i + 1, ⟨by omega, ?_⟩, by omega, Le.syn (by simp (disch := omega) [leS, hC, w64])⟩⟩, fun q3 => no ?_⟩, fun q2 => no ?_⟩, fun q1 => no ?_⟩
      · simp [colF]; omega
      · simpa using all_step hlt ha (by simp [colF]; omega)
      · simp [colF]; omega
      · simp [colF]; omega
      · simp [colF]; omega
    · obtain rfl : i = s.cols.length := by omega
      rw [List.take_length] at ha
      simp
      refine CodeJ.loopL (ι := Nat) (fun i => ⟨115, [(1, .ptr 0 0 0), (5, iv i)], [some ⟨4, [specT s], false⟩]⟩)
        (fun i => i ≤ s.rows.length ∧ (s.rows.take i).all rowF = true) (fun i => s.rows.length - i) 0 (by simp) ?_ ?_
      · simp [leS, hC]
      · rintro i ⟨hi, hb⟩
        by_cases hlt : i < s.rows.length
        · have hr := h.rows i hlt
          have e1 := hr.low
          have e2 := hr.high
          have e3 := hr.cols
          have e4 := hr.name
          have e5 := hr.nums.n
          have no := fun (q : rowF (gt s.rows i) = false) => show few5B s = false by unfold few5B; rw [all_no hlt q]; simp
          simp (disch := omega) [hlt, lget_rowT, w64]
          repeat (refine And.intro (by omega) ?_)
          refine ⟨fun q1 => ⟨fun q2 => ⟨fun q3 => ⟨fun q4 => ⟨fun q5 => ?_, fun q5 => ?_⟩, fun q4 => ?_⟩, fun q3 => ?_⟩, fun q2 => ?_⟩, fun q1 => ?_⟩
          all_goals
            first
              | exact no (by simp [rowF]; omega)
              | skip
          refine CodeJ.loopL (ι := Nat) (fun k => ⟨115, [(1, .ptr 0 0 0), (5, iv i), (6, .ptr 1 0 0), (7, iv k)], [some ⟨4, [specT s], false⟩, some ⟨5, [rowT (gt s.rows i)], false⟩]⟩)
            (fun k => k ≤ (gt s.rows i).nums.length ∧ ((gt s.rows i).nums.take k).all (fun s => decide (s.size ≤ 40)) = true) (fun k => (gt s.rows i).nums.length - k) 0 (by simp) ?_ ?_
          · simp [leS, hC]
          · rintro k ⟨hk, hd⟩
            by_cases hkl : k < (gt s.rows i).nums.length
            · have e6 := hr.nums.s _ (gt_mem hkl)
              simp (disch := omega) [hkl, lget_str, w64]
              repeat (refine And.intro (by omega) ?_)
              refine ⟨fun g => ?_, fun g => ?_⟩
              · refine no ?_
                unfold rowF; rw [all_no hkl (by simp; omega)]; simp
              · refine ⟨k + 1, ⟨by omega, by simpa using all_step hkl hd (by simp; omega)⟩, by omega, Le.syn (by simp (disch := omega) [leS, hC, w64])⟩
            · obtain rfl : k = (gt s.rows i).nums.length := by omega
              rw [List.take_length] at hd
              simp (disch := omega) [w64]
              repeat (refine And.intro (by omega) ?_)
              refine ⟨i + 1, ⟨by omega, ?_⟩, by omega, Le.syn (by simp (disch := omega) [leS, hC, w64])⟩
              simpa using all_step hlt hb (by unfold rowF; rw [hd]; simp; omega)
        · obtain rfl : i = s.rows.length := by omega
          rw [List.take_length] at hb
          simp [few5B, ha, hb]
          omega
end Go.Proofs
namespace Go.Sv
open Go Go.Tb Go.Ut
@[simp] theorem leM_eq (M : Tab) : leM M M = True := eq_true (leM_self M)
theorem tget_map {α : Type} [Inhabited α] (f : α → Option Ent) : ∀ {l : List α} {i : Nat}, i < l.length → tget (l.map f) i = f (gt l i)
  | [], i, h => by simp at h
  | x :: l, 0, _ => rfl
  | x :: l, i + 1, h => by
    have := tget_map f (l := l) (i := i) (by simpa using h)
    simp only [List.map_cons, tget]
    rw [this]; rfl
theorem tset_map {α : Type} (f : α → Option Ent) (l : List α) (i : Nat) (y : α) : tset (l.map f) i (f y) = (l.set i y).map f := by rw [tset_eq, List.map_set]
end Go.Sv
namespace Go.Li
open Go Go.Sv Go.Pl Go.Proofs Go.Tb Go.Ut
@[simp] theorem okE_rowQ (l : List Row) : okE 12 (l.map rowQ) = True := by cases l <;> simp [okE]
def rowV (k : Nat) (r : Row) : SV := .agg (SV.val (.string r.name) :: .view k 0 r.terms.length :: ((boQ r.low).cells ++ (boQ r.high).cells))
@[simp] theorem rowV_csz (k : Nat) (r : Row) : (rowV k r).csz = 12 := rfl
@[simp] theorem rowV_isTup (k : Nat) (r : Row) : (rowV k r).isTup = false := rfl
@[simp] theorem rowV_isAgg (k : Nat) (r : Row) : (rowV k r).isAgg = true := rfl
@[simp] theorem rowV_one (k : Nat) (r : Row) : (rowV k r).one = false := rfl
def tmE (ts : List Term) : Option Ent := some ⟨5, ts.map termQ, false⟩
theorem lset_rows {p : Prob} {i : Nat} (h : i < p.rows.length) : lset (p.rows.map rowQ) i (rowQ (gt p.rows i)) = p.rows.map rowQ := by
  rw [lset_eq]
  refine List.ext_getElem (by simp) fun j h1 h2 => ?_
  simp only [List.length_set, List.length_map] at h1
  rw [List.getElem_set]
  split
  · rename_i e; subst e; rw [List.getElem_map, gt_get h]
  · rfl
def rowsW : List Row → Nat → List SV
  | [], _ => []
  | r :: l, o => rowV o r :: rowsW l (o + 1)
@[simp] theorem rowsW_len : ∀ (l : List Row) (o : Nat), (rowsW l o).length = l.length
  | [], _ => rfl
  | r :: l, o => by simp [rowsW, rowsW_len l]
theorem lget_rowsW : ∀ {l : List Row} {o i : Nat}, i < l.length → lget (rowsW l o) i = rowV (i + o) (gt l i)
  | [], o, i, h => by simp at h
  | r :: l, o, 0, _ => by simp [rowsW, lget, gt]
  | r :: l, o, i + 1, h => by
    have := lget_rowsW (l := l) (o := o + 1) (i := i) (by simpa using h)
    simp only [rowsW, lget]
    rw [this, show i + (o + 1) = i + 1 + o by omega]; rfl
theorem lset_rowsW : ∀ {l : List Row} {o i : Nat} {r : Row}, lset (rowsW l o) i (rowV (i + o) r) = rowsW (l.set i r) o
  | [], o, i, r => by simp [rowsW, lset]
  | x :: l, o, 0, r => by simp [rowsW, lset]
  | x :: l, o, i + 1, r => by
    have := lset_rowsW (l := l) (o := o + 1) (i := i) (r := r)
    simp only [rowsW, lset, List.set_cons_succ]
    rw [← this, show i + (o + 1) = i + 1 + o by omega]
theorem rowsW_snoc : ∀ {l : List Row} {o : Nat} {r : Row}, rowsW (l ++ [r]) o = rowsW l o ++ [rowV (l.length + o) r]
  | [], o, r => by simp [rowsW]
  | x :: l, o, r => by
    simp only [rowsW, List.cons_append, rowsW_snoc (l := l), List.length_cons]
    rw [show l.length + (o + 1) = l.length + 1 + o by omega]
def rowsM (l : List Row) (i : Nat) : List SV := rowsW (l.take i) 4 ++ (l.drop i).map rowQ
@[simp] theorem rowsM_len (l : List Row) (i : Nat) : (rowsM l i).length = l.length := by simp [rowsM]; omega
theorem rowsM_zero (l : List Row) : rowsM l 0 = l.map rowQ := by simp [rowsM, rowsW]
theorem rowsM_end (l : List Row) : rowsM l l.length = rowsW l 4 := by simp [rowsM]
theorem rowsM_at {l : List Row} {i : Nat} (h : i < l.length) : rowsM l i = rowsW (l.take i) 4 ++ rowQ (gt l i) :: (l.drop (i + 1)).map rowQ := by
  unfold rowsM
  rw [List.drop_eq_getElem_cons h, gt_get h]; rfl
theorem lget_rowsM {l : List Row} {i : Nat} (h : i < l.length) : lget (rowsM l i) i = rowQ (gt l i) := by
  rw [rowsM_at h, lget_eq (by simp; omega)]
  rw [List.getElem_append_right (by simp; omega)]
  have : i - min i l.length = 0 := by omega
  simp [this]
theorem lset_rowsM {l : List Row} {i : Nat} (h : i < l.length) : lset (rowsM l i) i (rowV (i + 4) (gt l i)) = rowsM l (i + 1) := by
  have e : i = (rowsW (l.take i) 4).length := by simp; omega
  have e2 : min i l.length = i := by omega
  rw [rowsM_at h, lset_eq]
  conv => lhs; arg 2; rw [e]
  rw [List.set_append_right _ _ (Nat.le_refl _)]
  unfold rowsM
  rw [take_gt h, rowsW_snoc]
  simp [e2]
theorem sbL_put {k : Nat} {es l : List SV} {i : Nat} {x : SV} : sbL k es (l.set i x) = (sbL k es l).set i (sbV k es x) := by
  induction l generalizing i with
  | nil => rfl
  | cons y l ih => cases i <;> simp [ih]
theorem usesL_rowQ (k : Nat) (l : List Row) : SV.usesL k (l.map rowQ) = false := by simp [usesL_map]
theorem usesL_rowsW : ∀ {l : List Row} {o k : Nat}, o + l.length ≤ k → SV.usesL k (rowsW l o) = false
  | [], o, k, _ => rfl
  | r :: l, o, k, h => by
    have := usesL_rowsW (l := l) (o := o + 1) (k := k) (by simp at h; omega)
    have e : ¬ o = k := by simp at h; omega
    have b1 : ∀ b : Bo, SV.usesL k (boQ b).cells = false := fun b => rfl
    simp [rowsW, this, rowV, e, b1]
theorem usesL_rowsM {l : List Row} {i k : Nat} (h : i + 4 ≤ k) (h' : i ≤ l.length) : SV.usesL k (rowsM l i) = false := by
  unfold rowsM
  rw [usesL_app, usesL_rowsW (by simp; omega), usesL_rowQ]; rfl
theorem take_twE {f : Row → Option Ent} {l : List Row} {i : Nat} (h : i < l.length) : (l.map f).take i ++ [f (gt l i)] = (l.map f).take (i + 1) := by
  rw [← List.map_take, ← List.map_take, take_gt h]; simp
@[simp] theorem rowV_f0 (k : Nat) (r : Row) : lget (rowV k r).cells 0 = .val (.string r.name) := rfl
@[simp] theorem rowV_f1 (k : Nat) (r : Row) : lget (rowV k r).cells 1 = .view k 0 r.terms.length := rfl
def twE (r : Row) : Option Ent := tmE r.terms
theorem nouse_tw (k : Nat) (l : List Row) : nouse k (l.map twE) = true := by
  simp [nouse, twE, tmE, usesL_map]
end Go.Li
namespace Go.Proofs
open Go.Sv Go Go.Tb Go.Pl Go.Ut Go.Li
set_option maxRecDepth 10000 in
theorem twin_ok (p : Prob) (h : Few p) : PureF Tryz.prog 95 [.rop (probQ p) 0] (.rop (probQ p) 0) := by
  have nc := h.nc
  have nr := h.nr
  refine pure_enterW Tryz.func95 rfl (by simp) (fun C hC => ?_)
  simp
  simp [probQ]
  refine ⟨by omega, by omega, ?_⟩
  refine CodeJ.loopL (ι := Nat) (fun i => ⟨41, [(0, .rop (probQ p) 0), (3, .ptr 0 0 0), (22, iv p.rows.length), (23, iv i)], [some ⟨7, [.agg (bov p.max :: ((rsv p.shift).cells ++ [.view 1 0 p.cols.length, .view 2 0 p.rows.length]))], false⟩, some ⟨16, p.cols.map colQ, false⟩, some ⟨12, p.rows.map rowQ, false⟩]⟩)
    (fun i => i ≤ p.rows.length) (fun i => p.rows.length - i) 0 (by simp) ?_ ?_
  · simp [leS, hC, probQ]
    done
  · rintro i hi
    by_cases hlt : i < p.rows.length
    · have nt := h.nt i hlt
      simp (disch := omega) [hlt, w64]
      repeat (refine And.intro (by omega) ?_)
      refine CodeJ.draw (.qs [0, 1, 2, 3, 4, 5, 6, 7, 8, 9, 10] <| .l 11 [] <| .qs [12, 13] <| .l 14 [2] <| .nil) (by kernel_rfl) (by kernel_rfl) (by simp) ?_
      have e1 : SV.agg (List.take 1 (rowQ (gt p.rows i)).cells ++ .ro ((gt p.rows i).terms.map termQ) :: List.drop 2 (rowQ (gt p.rows i)).cells) = rowQ (gt p.rows i) := rfl
      simp (disch := omega) [hlt, lget_rowQ, w64]
      repeat (refine And.intro (by omega) ?_)
      refine ⟨⟨by cases (gt p.rows i).terms <;> simp [okE], by omega⟩, i + 1, by omega, by omega, (Le.frz 3 rfl (by simp)).trans ?_⟩
      refine Le.syn ?_
      have e2 : sbL 3 (List.map termQ (gt p.rows i).terms) (lset (List.map rowQ p.rows) i (SV.agg (List.take 1 (rowQ (gt p.rows i)).cells ++ SV.view 3 0 (gt p.rows i).terms.length :: List.drop 2 (rowQ (gt p.rows i)).cells))) = List.map rowQ p.rows := by
        rw [lset_eq, sbL_put, sbL_pure _ _ _ (by simp), ← lset_eq]
        have b1 : ∀ b : Bo, sbL 3 (List.map termQ (gt p.rows i).terms) (boQ b).cells = (boQ b).cells := fun b => sbL_pure _ _ _ rfl
        have e3 : sbV 3 (List.map termQ (gt p.rows i).terms) (SV.agg (SV.val (.string (gt p.rows i).name) :: SV.view 3 0 (gt p.rows i).terms.length :: ((boQ (gt p.rows i).low).cells ++ (boQ (gt p.rows i).high).cells))) = rowQ (gt p.rows i) := by
          simp [sbL_app, b1]
          rfl
        have e5 : SV.agg (List.take 1 (rowQ (gt p.rows i)).cells ++ SV.view 3 0 (gt p.rows i).terms.length :: List.drop 2 (rowQ (gt p.rows i)).cells) = SV.agg (SV.val (.string (gt p.rows i).name) :: SV.view 3 0 (gt p.rows i).terms.length :: ((boQ (gt p.rows i).low).cells ++ (boQ (gt p.rows i).high).cells)) := rfl
        rw [e5]
        rw [e3]; exact lset_rows hlt
      have e4 : sbL 3 (List.map termQ (gt p.rows i).terms) (List.map colQ p.cols) = List.map colQ p.cols := sbL_pure _ _ _ (by simp)
      simp (disch := omega) [leS, hC, w64, frzS, tset, e2, e4]
      rfl
    · obtain rfl : i = p.rows.length := by omega
      simp
      refine ⟨_, (Le.frz 2 rfl (by simp)).trans ((Le.frz 1 rfl (by simp)).trans (Le.frz 0 rfl (by simp))), ?_⟩
      simp [frzS, tset, probQ]
      done
def twT (s : SpecT) (p : Prob) (cs : List Col) (rows : List SV) (rs : List Row) : Tab := some ⟨4, [specT s], false⟩ :: some ⟨7, [.agg (bov p.max :: ((rsv p.shift).cells ++ [.view 2 0 p.cols.length, .view 3 0 p.rows.length]))], false⟩ :: some ⟨16, cs.map colQ, false⟩ :: some ⟨12, rows, false⟩ :: rs.map twE
set_option maxRecDepth 10000 in
theorem twinned_ok (s : SpecT) (h : SmS s) (hv : validC (probOf s) = 0) : PureF Tryz.prog 36 [.rop (probQ (probOf s)) 0, specT s] (bov true) := by
  have gP := pProblem_ok s h
  have fw := few_of h
  have pw := probW_of s
  generalize probOf s = p at *
  have gT := twin_ok p fw
  have gS := qSpec_ok p fw pw hv
  have nc := fw.nc
  have nr := fw.nr
  have gE := sameSpec_ok (specTx p) (by simpa [specTx] using nc) (by simpa [specTx] using nr) (fun i hi => by
    have hi' : i < p.rows.length := by simpa [specTx] using hi
    have := fw.nt i hi'
    rw [gt_rowTx hi']
    simp [rowTx]; omega)
  refine pure_enterW Tryz.func36 rfl (by simp) (fun C hC => ?_)
  simp
  refine call_here Tryz.func95 rfl (by simp) [] (by simp) (by simp) (fun C' hC' => ?_)
  simp [probQ]
  refine ⟨by omega, by omega, ?_⟩
  refine CodeJ.loopL (ι := Nat) (fun i => ⟨41, [(0, .rop (probQ p) 0), (3, .ptr 1 0 0), (22, iv p.rows.length), (23, iv i)], twT s p p.cols (rowsM p.rows i) (p.rows.take i)⟩)
    (fun i => i ≤ p.rows.length) (fun i => p.rows.length - i) 0 (by simp) ?_ ?_
  · simp [leS, hC', probQ, twT, rowsM_zero]
    done
  · rintro i hi
    by_cases hlt : i < p.rows.length
    · have nt := fw.nt i hlt
      have e1 := lget_rowsM hlt
      have e2 := lset_rowsM hlt
      have e3 : min i p.rows.length = i := by omega
      unfold twT
      simp (disch := omega) [hlt, w64]
      repeat (refine And.intro (by omega) ?_)
      refine CodeJ.draw (.qs [0, 1, 2, 3, 4, 5, 6, 7, 8, 9, 10] <| .l 11 [] <| .qs [12, 13] <| .l 14 [3] <| .nil) (by kernel_rfl) (by kernel_rfl) (by simp) ?_
      have e4 : i + 1 + 1 + 1 + 1 = i + 4 := rfl
      have e5 := nouse_tw (i + 4) (p.rows.take i)
      simp only [List.map_take] at e5
      have e6 : SV.agg (List.take 1 (rowQ (gt p.rows i)).cells ++ .view (i + 4) 0 (gt p.rows i).terms.length :: List.drop 2 (rowQ (gt p.rows i)).cells) = rowV (i + 4) (gt p.rows i) := rfl
      simp (disch := omega) [hlt, lget_rowQ, w64, e1, e3, e4, e5, e6, e2, usesL_rowsM]
      repeat (refine And.intro (by omega) ?_)
      refine ⟨⟨by cases (gt p.rows i).terms <;> simp [okE], by omega⟩, i + 1, by omega, by omega, Le.syn ?_⟩
      simp (disch := omega) [leS, hC', w64]
      rw [← take_twE hlt]
      exact leM_self _
    · obtain rfl : i = p.rows.length := by omega
      simp
      unfold twT
      rw [rowsM_end]
      refine CodeJ.loopL (ι := Nat × List Row) (fun ⟨i, rs⟩ => ⟨90, [(0, .rop (probQ p) 0), (3, .ptr 0 0 0), (5, .ptr 1 0 0), (6, iv i)], twT s p p.cols (rowsW rs 4) rs⟩)
        (fun ⟨i, rs⟩ => i ≤ p.rows.length ∧ rs.length = p.rows.length ∧ ∀ j, j < rs.length → (gt rs j).terms.length ≤ 1048576) (fun ⟨i, rs⟩ => p.rows.length - i) (0, p.rows) ⟨by omega, rfl, fun j hj => fw.nt j hj⟩ ?_ ?_
      · simp [leS, hC, twT]
        rfl
      · rintro ⟨i, rs⟩ ⟨hi, hl, ht⟩
        have gl : rs.length = p.rows.length := hl
        simp only [twT]
        by_cases hlt : i < p.rows.length
        · have nt := ht i (by omega)
          simp (disch := omega) [hlt, gl, w64]
          repeat (refine And.intro (by omega) ?_)
          refine CodeJ.loopL (ι := Nat × List Row) (fun ⟨k, rs⟩ => ⟨90, [(0, .rop (probQ p) 0), (3, .ptr 0 0 0), (5, .ptr 1 0 0), (6, iv i), (7, iv k)], twT s p p.cols (rowsW rs 4) rs⟩)
            (fun ⟨k, rs⟩ => rs.length = p.rows.length ∧ k ≤ (gt rs i).terms.length ∧ ∀ j, j < rs.length → (gt rs j).terms.length ≤ 1048576) (fun ⟨k, rs⟩ => (gt rs i).terms.length - k) (0, rs) ⟨hl, by omega, ht⟩ ?_ ?_
          · simp [leS, hC, twT]
          · rintro ⟨k, rs⟩ ⟨hl, hk, ht⟩
            have gl : rs.length = p.rows.length := hl
            have nt : (gt rs i).terms.length ≤ 1048576 := ht i (by omega)
            have lr := lget_rowsW (l := rs) (o := 4) (i := i) (by omega)
            have tg := tget_map twE (l := rs) (i := i) (by omega)
            simp only [twT]
            by_cases hk' : k < (gt rs i).terms.length
            · have lt := lget_termQ hk'
              simp (disch := omega) [hlt, gl, w64, lr, hk']
              repeat (refine And.intro (by omega) ?_)
              refine CodeJ.draw (.qs [0, 1, 2, 3, 4, 5, 6, 7, 8] <| .l 9 [] <| .qs [10, 11] <| .l 12 [i + 4] <| .nil) (by kernel_rfl) (by kernel_rfl) (by simp) ?_
              simp (disch := omega) [hlt, gl, w64, lr, hk', tg, tmE, twE]
              repeat (refine And.intro (by omega) ?_)
              refine callS (qInt_ok 77 (by omega) (by omega)) (by simp) ?_
              simp (disch := omega) [hlt, gl, w64, lr, hk', tg, tmE, twE, lt]
              repeat (refine And.intro (by omega) ?_)
              have e1 : SV.agg (List.take 1 (termQ (gt (gt rs i).terms k)).cells ++ ((rsv 77).cells ++ List.drop 5 (termQ (gt (gt rs i).terms k)).cells)) = termQ { gt (gt rs i).terms k with num := 77 } := rfl
              refine ⟨k + 1, rs.set i { gt rs i with terms := (gt rs i).terms.set k { gt (gt rs i).terms k with num := 77 } }, ⟨by simpa using gl, ?_, fun j hj => ?_⟩, ?_, Le.syn ?_⟩
              · rw [gt_set (by omega), if_pos rfl]; simp; omega
              · rw [gt_set (by simpa using hj)]
                split
                · simpa using nt
                · exact ht j (by simpa using hj)
              · rw [gt_set (by omega), if_pos rfl]; simp; omega
              · have e2 : rowsW (rs.set i { gt rs i with terms := (gt rs i).terms.set k { gt (gt rs i).terms k with num := 77 } }) 4 = rowsW rs 4 := by
                  rw [← lset_rowsW]
                  have e3 : rowV (i + 4) { gt rs i with terms := (gt rs i).terms.set k { gt (gt rs i).terms k with num := 77 } } = rowV (i + 4) (gt rs i) := by simp [rowV]
                  rw [e3, lset_rowsW]
                  congr 1
                  refine List.ext_getElem (by simp) fun j h1 h2 => ?_
                  rw [List.getElem_set]
                  split
                  · rename_i e; subst e; rw [gt_get (by simpa using h2)]
                  · rfl
                have e4 : tset (rs.map twE) i (some { sz := 5, es := lset ((gt rs i).terms.map termQ) k (termQ { gt (gt rs i).terms k with num := 77 }), fz := false }) = (rs.set i { gt rs i with terms := (gt rs i).terms.set k { gt (gt rs i).terms k with num := 77 } }).map twE := by
                  rw [← tset_map]
                  congr 1
                  simp only [twE, tmE]
                  rw [lset_eq, List.map_set]
                simp (disch := omega) only [e1, e4, e2]
                simp (disch := omega) [leS, hC, w64, -List.map_set]
            · obtain rfl : k = (gt rs i).terms.length := by omega
              simp (disch := omega) [hlt, gl, w64, lr]
              repeat (refine And.intro (by omega) ?_)
              have e1 : SV.agg (SV.val (Value.string { data := #[63] }) :: (rowV (i + 4) (gt rs i)).cells.tail) = rowV (i + 4) { gt rs i with name := ⟨#[63]⟩ } := rfl
              refine ⟨i + 1, rs.set i { gt rs i with name := ⟨#[63]⟩ }, ⟨by omega, by simpa using gl, fun j hj => ?_⟩, by omega, Le.syn ?_⟩
              · rw [gt_set (by simpa using hj)]
                split
                · exact nt
                · exact ht j (by simpa using hj)
              · have e2 : (rs.set i { gt rs i with name := ⟨#[63]⟩ }).map twE = rs.map twE := by
                  rw [List.map_set]
                  refine List.ext_getElem (by simp) fun j h1 h2 => ?_
                  rw [List.getElem_set]
                  split
                  · rename_i e; subst e; rw [List.getElem_map, gt_get (by simpa using h2)]; rfl
                  · rfl
                simp (disch := omega) [leS, hC, w64, -List.map_set, e1, lset_rowsW, e2]
        · obtain rfl : i = p.rows.length := by omega
          simp (disch := omega) [gl]
          refine CodeJ.loopL (ι := Nat × List Col) (fun ⟨i, cs⟩ => ⟨90, [(0, .rop (probQ p) 0), (3, .ptr 0 0 0), (5, .ptr 1 0 0), (8, iv i)], twT s p cs (rowsW rs 4) rs⟩)
            (fun ⟨i, cs⟩ => i ≤ p.cols.length ∧ cs.length = p.cols.length) (fun ⟨i, cs⟩ => p.cols.length - i) (0, p.cols) ⟨by omega, rfl⟩ ?_ ?_
          · simp [leS, hC, twT]
          · rintro ⟨i, cs⟩ ⟨hi, hl⟩
            have gl : cs.length = p.cols.length := hl
            simp only [twT]
            by_cases hlt : i < p.cols.length
            · have lc := lget_colQ (l := cs) (i := i) (by omega)
              simp (disch := omega) [hlt, gl, w64, lc]
              repeat (refine And.intro (by omega) ?_)
              have e1 : SV.agg (SV.val (Value.string { data := #[63] }) :: (colQ (gt cs i)).cells.tail) = colQ { gt cs i with name := ⟨#[63]⟩ } := rfl
              refine ⟨i + 1, cs.set i { gt cs i with name := ⟨#[63]⟩ }, ⟨by omega, by simpa using gl⟩, by omega, Le.syn ?_⟩
              have e2 : lset (cs.map colQ) i (colQ { gt cs i with name := ⟨#[63]⟩ }) = (cs.set i { gt cs i with name := ⟨#[63]⟩ }).map colQ := by rw [lset_eq, List.map_set]
              rw [e1]
              simp only [e2]
              simp (disch := omega) [leS, hC, w64, -List.map_set]
            · obtain rfl : i = p.cols.length := by omega
              simp
              refine callS (gP) (by simp) ?_
              simp
              refine callS (gT) (by simp) ?_
              simp
              refine callS (gS) (by simp) ?_
              simp
              refine callS (gS) (by simp) ?_
              simp
              refine callS (gE) (by simp) ?_
              simp
              refine callS (gS) (by simp) ?_
              simp
              refine callS (gS) (by simp) ?_
              simp
              refine callS (gE) (by simp) ?_
              simp
              refine ⟨_, Le.refl _ _, ?_⟩
              simp
end Go.Proofs
namespace Go.Proofs
open Go.Sv Go Go.Tb Go.Pl Go.Ut Go.Li
theorem codedL_ok {c : Nat} (hc : 0 < c) (hc' : c ≤ 10) (n : Int) : PureE Tryz.prog 16 [erV c, iv n] (fun x => x = .val (.bool (decide ((c : Int) = n)))) := by
  refine pureE_enter Tryz.func16 rfl (by simp) (fun C hC hX hE => ?_)
  refine CodeJ.go ?_
  have cs := codeS_ok (j := c - 1) (by omega)
  have e : erV c = .sen sent (gs (c - 1)) := by unfold erV; rw [if_neg (by omega)]
  rw [show c - 1 + 1 = c by omega] at cs
  rw [e]
  simp
  refine callE cs hE hX (by simp) (fun x hx => ?_)
  subst hx
  simp
set_option maxRecDepth 20000 in
theorem linearHolds_ok (s : SpecT) (x : List ByteArray) (whole : Bool) (h : SmS s) (hx : SmN x) :
    PureE Tryz.prog 4 [specT s, .ro (x.map strv), bov whole] (fun x => x = .val (.bool true)) := by
  have q0 : qok 0 := qok_of (qw_small (n := 0) (by omega) (by omega)) (by omega)
  have g1 := rFrom_ok s h
  have g2 := fewS_ok s h
  have g3 := rNumbers_ok x hx
  rw [numX_eq] at g3
  have nx := hx.n
  refine pureE_enter Tryz.func4 rfl (by simp) (fun C hC hX hE => ?_)
  refine CodeJ.go ?_
  simp
  by_cases ho : okS s = true
  · rw [ho, probX_of ho] at g1
    refine callS (g1) (by simp) ?_
    simp
    refine callS (g2) (by simp) ?_
    simp
    refine callS (g3) (by simp) ?_
    simp
    refine fun c1 c2 c3 => ?_
    have eX : numX x = (nums x).map qsv := by unfold numX; rw [if_pos c2]
    have g4 := pNumbers_ok x hx
    rw [numY_eq, numY, if_pos c2, c2] at g4
    rw [eX]
    have gT := fun hv => twinned_ok s h hv
    have fw := few_of h
    have pw := probW_of s
    have g5 := pProblem_ok s h
    generalize probOf s = p at *
    have g6 := rValid_ok p fw
    have g7 := qValid_ok p fw
    refine callS (g5) (by simp) ?_
    simp
    refine callS (g4) (by simp) ?_
    simp
    refine callS (g6) (by simp) ?_
    simp
    refine callS (g7) (by simp) ?_
    simp
    by_cases hv : validC p = 0
    · have ln : (nums x).length = x.length := by simp [nums]
      by_cases hl : (nums x).length = p.cols.length
      · have hl' : (x.length : Int) = p.cols.length := by omega
        have hxw := wd_nums x
        have gT := gT hv
        obtain ⟨v1, v2, v3⟩ := valid_yes hv
        have g8 := qValue_ok p fw pw hv (nums x) hxw hl
        have g9 := qHolds_ok p fw pw hv (nums x) hxw hl whole
        have g10 := rValue_ok p fw pw (nums x) hxw hl
        have g11 := rHolds_ok p fw pw hv (nums x) hxw hl whole
        have wV : qok (valK p (nums x) p.cols.length) := qok_of (qw_valK pw hxw (by omega) p.cols.length (by omega)) (by omega)
        have t1 := qText_ok _ wV
        have t2 := pText_ok _ wV
        simp [hv, erV_0]
        refine callS (g8) (by simp) ?_
        simp
        refine callS (g9) (by simp) ?_
        simp [hl']
        refine CodeJ.draw (.qs [0, 1, 2, 3, 4, 5, 6, 7, 9, 10] <| .l 8 [] <| .l 11 [] <| .l 12 [] <| .qs [13, 14, 15, 16, 17, 18, 19] <| .l 20 [] <| .qs [21, 22] <| .nil) (by kernel_rfl) (by kernel_rfl) (by simp) ?_
        simp
        refine callS (t1) (by simp) ?_
        simp
        refine callS (g10) (by simp) ?_
        simp
        refine callS (t2) (by simp) ?_
        simp
        refine callS (g11) (by simp) ?_
        simp
        refine CodeJ.loopL (ι := Nat) (fun i => ⟨197, [(3, .ptr 0 0 0), (7, .ptr 1 0 0), (12, .rop (probQ p) 0), (14, .ro ((nums x).map rsv)), (10, .ro ((nums x).map qsv)), (26, iv i)], [some ⟨4, [specT s], false⟩, some ⟨7, [probP p], false⟩]⟩)
          (fun i => i ≤ p.rows.length) (fun i => p.rows.length - i) 0 (by simp) ?_ ?_
        · simp [leS, hC]
        · rintro i hi
          by_cases hlt : i < p.rows.length
          · have to := v3 i hlt
            have lq := lget_rowQ hlt
            have lp := lget_rowP hlt
            have to' : ∀ k, k < (gt p.rows i).terms.length → qw 2200 (gt (gt p.rows i).terms k).num ∧ 0 ≤ (gt (gt p.rows i).terms k).col ∧ (gt (gt p.rows i).terms k).col < (nums x).length := fun k hk => by
              have := badT_ok to k hk
              exact ⟨pw.te i hlt k hk, this.1, by omega⟩
            have nt := fw.nt i hlt
            have nt' := badT_len to
            have s1 := qSum_ok (gt p.rows i) nt (nums x) hxw to'
            have s2 := rSum_ok (gt p.rows i) nt (nums x) hxw to'
            have wS : qok (sumK (nums x) (gt p.rows i).terms (gt p.rows i).terms.length) := qok_of (qw_sumK hxw to' (gt p.rows i).terms.length (by omega)) (by omega)
            have t3 := qText_ok _ wS
            have t4 := pText_ok _ wS
            simp (disch := omega) [hlt, lq, lp]
            repeat (refine And.intro (by omega) ?_)
            refine callS (s1) (by simp) ?_
            simp
            refine CodeJ.draw (.qs [0, 2, 3, 4, 5, 6, 7] <| .l 1 [] <| .l 8 [] <| .l 9 [] <| .qs [10] <| .nil) (by kernel_rfl) (by kernel_rfl) (by simp) ?_
            simp (disch := omega) [hlt, lq, lp]
            repeat (refine And.intro (by omega) ?_)
            refine callS (t3) (by simp) ?_
            simp (disch := omega) [hlt, lq, lp]
            repeat (refine And.intro (by omega) ?_)
            refine callS (s2) (by simp) ?_
            simp (disch := omega) [hlt, lq, lp]
            repeat (refine And.intro (by omega) ?_)
            refine callS (t4) (by simp) ?_
            simp (disch := omega) [hlt, lq, lp, w64]
            repeat (refine And.intro (by omega) ?_)
            exact ⟨i + 1, by omega, by omega, Le.syn (by simp (disch := omega) [leS, hC, w64])⟩
          · obtain rfl : i = p.rows.length := by omega
            simp
            refine callS (gT) (by simp) ?_
            simp
      · have hl' : ¬ (x.length : Int) = p.cols.length := by omega
        simp [hv, erV_0]
        refine callS (qValueS_ok p fw hv (nums x) hl) (by simp) ?_
        simp
        refine callS (qHoldsS_ok p fw hv (nums x) hl whole) (by simp) ?_
        simp [hl']
        refine callE (codedL_ok (c := 4) (by omega) (by omega) 4) hE hX (by simp) (fun x hx => ?_)
        subst hx
        simp
        refine callE (codedL_ok (c := 4) (by omega) (by omega) 4) hE hX (by simp) (fun x hx => ?_)
        subst hx
        simp
        refine callS (qText_ok 0 q0) (by simp) ?_
        simp [txt_0]
    · have hv' := valid_le p hv
      simp [hv, hv'.1]
      refine callS (qValueE_ok p fw hv (nums x)) (by simp) ?_
      simp
      refine callS (qHoldsE_ok p fw hv (nums x) whole) (by simp) ?_
      simp
      refine callE (codedL_ok hv'.1 hv'.2 (validC p)) hE hX (by simp) (fun x hx => ?_)
      subst hx
      simp
      refine callE (codedL_ok hv'.1 hv'.2 (validC p)) hE hX (by simp) (fun x hx => ?_)
      subst hx
      simp
      refine callE (codedL_ok hv'.1 hv'.2 (validC p)) hE hX (by simp) (fun x hx => ?_)
      subst hx
      simp
      refine callS (qText_ok 0 q0) (by simp) ?_
      simp [txt_0]
  · have ho' : okS s = false := by simpa using ho
    rw [ho'] at g1
    refine callS (g1) (by simp) ?_
    simp
    refine callS (g2) (by simp) ?_
    simp
    refine callS (g3) (by simp) ?_
    simp
theorem boolD_sv (x : Pt.bool.T) : Pt.bool.sv x = bov x := rfl
end Go.Proofs

