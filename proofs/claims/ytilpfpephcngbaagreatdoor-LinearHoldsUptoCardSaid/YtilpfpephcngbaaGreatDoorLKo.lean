/- What a point costs, what rows come to, whether a point holds: plain data, both sides' answers. WEAK DUALITY, and one half of FARKAS: plain laws of problems. Whether a claim shows itself: the program's answer. A text of the prover's own. -/
import Derived.Test.YtilpfpephcngbaaGreatDoorLKk
namespace Go.Li
open Go Go.Sv Go.Pl Go.Proofs Go.Tb Go.Ut
def sumK (x : List Rat) (ts : List Term) : Nat → Rat
  | 0 => 0
  | k + 1 => sumK x ts k + (gt ts k).num * gt x (gt ts k).col.toNat
def valK (p : Prob) (x : List Rat) : Nat → Rat
  | 0 => p.shift
  | j + 1 => valK p x j + (gt p.cols j).cost * gt x j
def inB (q : Rat) (low high : Bo) : Bool := !(low.has && decide (q < low.at')) && !(high.has && decide (high.at' < q))
def colB (p : Prob) (x : List Rat) (whole : Bool) (j : Nat) : Bool := inB (gt x j) (gt p.cols j).low (gt p.cols j).high && !(whole && (gt p.cols j).whole && !decide ((gt x j).den = 1))
def rowB (p : Prob) (x : List Rat) (i : Nat) : Bool := inB (sumK x (gt p.rows i).terms (gt p.rows i).terms.length) (gt p.rows i).low (gt p.rows i).high
def holdsB (p : Prob) (x : List Rat) (whole : Bool) : Bool := (List.range p.cols.length).all (colB p x whole) && (List.range p.rows.length).all (rowB p x)
theorem rng_no {n i : Nat} {f : Nat → Bool} (h : i < n) (hf : f i = false) : (List.range n).all f = false := by
  rw [List.all_eq_false]; exact ⟨i, List.mem_range.2 h, by simp [hf]⟩
theorem rng_yes {n : Nat} {f : Nat → Bool} (h : ∀ i, i < n → f i = true) : (List.range n).all f = true := by
  rw [List.all_eq_true]; exact fun i hi => h i (List.mem_range.1 hi)
theorem stp {P : Nat → Prop} {i : Nat} (h : ∀ k, k < i → P k) (hi : P i) : ∀ k, k < i + 1 → P k := fun k hk => by
  rcases Nat.lt_or_ge k i with h' | h'
  · exact h k h'
  · obtain rfl : k = i := by omega
    exact hi
theorem holds_yes {p : Prob} {x : List Rat} {w : Bool} (h1 : ∀ k, k < p.cols.length → colB p x w k = true) (h2 : ∀ k, k < p.rows.length → rowB p x k = true) : holdsB p x w = true := by
  unfold holdsB; rw [rng_yes h1, rng_yes h2]; rfl
theorem holds_noC {p : Prob} {x : List Rat} {w : Bool} {j : Nat} (hj : j < p.cols.length) (h : colB p x w j = false) : holdsB p x w = false := by unfold holdsB; rw [rng_no hj h]; rfl
theorem holds_noR {p : Prob} {x : List Rat} {w : Bool} {j : Nat} (hj : j < p.rows.length) (h : rowB p x j = false) : holdsB p x w = false := by unfold holdsB; rw [rng_no hj h]; simp
theorem qw_sumK {x : List Rat} (hx : Wd 2200 x) {ts : List Term} (ht : ∀ k, k < ts.length → qw 2200 (gt ts k).num ∧ 0 ≤ (gt ts k).col ∧ (gt ts k).col < x.length) : ∀ k, k ≤ ts.length → qw (1 + 4401 * k) (sumK x ts k)
  | 0, _ => qw_mono (qw_small (n := 0) (by omega) (by omega)) (by omega)
  | k + 1, hk => by
    obtain ⟨h1, h2, h3⟩ := ht k (by omega)
    exact qw_mono (qw_add (qw_sumK hx ht k (by omega)) (qw_mul h1 (hx _ (by omega)) (by omega))) (by omega)
theorem qw_valK {p : Prob} (hw : ProbW p) {x : List Rat} (hx : Wd 2200 x) (hl : p.cols.length ≤ x.length) : ∀ j, j ≤ p.cols.length → qw (2200 + 4401 * j) (valK p x j)
  | 0, _ => hw.sh
  | j + 1, hj => qw_mono (qw_add (qw_valK hw hx hl j (by omega)) (qw_mul (hw.co j (by omega)).1 (hx j (by omega)) (by omega))) (by omega)
theorem terms_ok {p : Prob} (hw : ProbW p) (hv : validC p = 0) {x : List Rat} (hl : x.length = p.cols.length) {i : Nat} (hi : i < p.rows.length) : ∀ k, k < (gt p.rows i).terms.length → qw 2200 (gt (gt p.rows i).terms k).num ∧ 0 ≤ (gt (gt p.rows i).terms k).col ∧ (gt (gt p.rows i).terms k).col < x.length := fun k hk => by
  obtain ⟨h1, h2, -, -⟩ := badT_ok ((valid_yes hv).2.2 i hi) k hk
  exact ⟨hw.te i hi k hk, by omega, by omega⟩
end Go.Li
namespace Go.Proofs
open Go.Sv Go Go.Tb Go.Pl Go.Ut Go.Li
set_option maxRecDepth 10000 in
theorem rSum_ok (r : Row) (hn : r.terms.length ≤ 1048576) (x : List Rat) (hx : Wd 2200 x) (ht : ∀ k, k < r.terms.length → qw 2200 (gt r.terms k).num ∧ 0 ≤ (gt r.terms k).col ∧ (gt r.terms k).col < x.length) : PureF Tryz.prog 35 [rowP r, .ro (x.map qsv)] (qsv (sumK x r.terms r.terms.length)) := by
  refine pure_enter Tryz.func35 rfl (by simp) (fun C hC => ?_)
  simp
  refine callS (zeroP) (by simp) ?_
  simp
  refine CodeJ.loopL (ι := Nat) (fun k => ⟨34, [(1, .ro (x.map qsv)), (2, .ptr 0 0 0), (4, .ptr 1 0 0), (5, .ptr 2 0 0), (6, iv k)], [some ⟨13, [rowP r], false⟩, some ⟨4, [.agg [.val (.bool false), .val (.slice none 0 0), .val (.bool false), .val (.slice none 0 0)]], false⟩, some ⟨4, [qsv (sumK x r.terms k)], false⟩]⟩)
    (fun k => k ≤ r.terms.length) (fun k => r.terms.length - k) 0 (by simp) ?_ ?_
  · simp [leS, hC, sumK]
  · rintro k hk
    by_cases hlt : k < r.terms.length
    · obtain ⟨h1, h2, h3⟩ := ht k hlt
      have w1 := qw_sumK hx ht k (by omega)
      have w2 := hx (gt r.terms k).col.toNat (by omega)
      have l3 : lget (x.map qsv) (gt r.terms k).col.toNat = qsv (gt x (gt r.terms k).col.toNat) := lget_q (by omega)
      simp (disch := omega) [hlt]
      repeat (refine And.intro (by omega) ?_)
      refine CodeJ.drawZ (.d 14 <| .qs [0, 1, 2, 3, 4, 5, 6, 7, 8, 9, 10, 11, 12] <| .p 13 <| .b (.l 15 [3] <| .nil)) (by kernel_rfl) (by kernel_rfl) (by simp) ?_
      simp (disch := omega) [hlt, lget_cols, lget_nums, l3]
      repeat (refine And.intro (by omega) ?_)
      refine callV (pMul_ok _ _ (qok_of h1 (by omega)) (qok_of w2 (by omega))) (by simp) ?_
      simp
      refine callS (pAdd_ok _ _ (qok_of w1 (by omega)) (qok_of (qw_mul h1 w2 (by omega)) (by omega))) (by simp) ?_
      simp (disch := omega) [w64]
      repeat (refine And.intro (by omega) ?_)
      exact ⟨k + 1, by omega, by omega, Le.syn (by simp (disch := omega) [leS, hC, w64, sumK])⟩
    · obtain rfl : k = r.terms.length := by omega
      simp
set_option maxRecDepth 10000 in
theorem rValue_ok (p : Prob) (h : Few p) (hw : ProbW p) (x : List Rat) (hx : Wd 2200 x) (hl : x.length = p.cols.length) : PureF Tryz.prog 32 [probP p, .ro (x.map qsv)] (qsv (valK p x p.cols.length)) := by
  have nc := h.nc
  refine pure_enter Tryz.func32 rfl (by simp) (fun C hC => ?_)
  simp
  refine CodeJ.loopL (ι := Nat) (fun j => ⟨32, [(1, .ro (x.map qsv)), (2, .ptr 0 0 0), (4, .ptr 1 0 0), (5, .ptr 2 0 0), (6, iv j)], [some ⟨7, [probP p], false⟩, some ⟨4, [.agg [.val (.bool false), .val (.slice none 0 0), .val (.bool false), .val (.slice none 0 0)]], false⟩, some ⟨4, [qsv (valK p x j)], false⟩]⟩)
    (fun j => j ≤ p.cols.length) (fun j => p.cols.length - j) 0 (by simp) ?_ ?_
  · simp [leS, hC, valK]
  · rintro j hj
    by_cases hlt : j < p.cols.length
    · have w1 := qw_valK hw hx (by omega) j (by omega)
      have w2 := hx j (by omega)
      have w3 := (hw.co j hlt).1
      simp (disch := omega) [hlt]
      repeat (refine And.intro (by omega) ?_)
      refine CodeJ.drawZ (.d 11 <| .qs [0, 1, 2, 3, 4, 5, 6, 7, 8, 9] <| .p 10 <| .b (.l 12 [3] <| .nil)) (by kernel_rfl) (by kernel_rfl) (by simp) ?_
      simp (disch := omega) [hlt, lget_colP, lget_q]
      repeat (refine And.intro (by omega) ?_)
      refine callV (pMul_ok _ _ (qok_of w3 (by omega)) (qok_of w2 (by omega))) (by simp) ?_
      simp
      refine callS (pAdd_ok _ _ (qok_of w1 (by omega)) (qok_of (qw_mul w3 w2 (by omega)) (by omega))) (by simp) ?_
      simp (disch := omega) [w64]
      repeat (refine And.intro (by omega) ?_)
      exact ⟨j + 1, by omega, by omega, Le.syn (by simp (disch := omega) [leS, hC, w64, valK])⟩
    · obtain rfl : j = p.cols.length := by omega
      simp
theorem rInside_ok (q : Rat) (a b : Bo) (hq : qok q) (ha : qok a.at') (hb : qok b.at') : PureF Tryz.prog 93 [qsv q, boP a, boP b] (.val (.bool (inB q a b))) := by
  refine pure_enter Tryz.func93 rfl (by simp) (fun C hC => ?_)
  simp
  refine ⟨fun h1 => ?_, fun h1 => ⟨fun h2 => ?_, fun h2 => by simp [inB, h1, h2]⟩⟩
  · rw [qb_has h1]
    refine callS (cmpP q a.at' hq ha) (by simp) ?_
    simp
    refine ⟨fun q1 => by simp [inB, h1, q1], fun q1 => ⟨fun h2 => ?_, fun h2 => by simp [inB, h1, h2, q1]⟩⟩
    rw [qb_has h2]
    refine callS (cmpP q b.at' hq hb) (by simp) ?_
    simp
    exact ⟨fun q2 => by simp [inB, h1, h2, q1, q2], fun q2 => by simp [inB, h1, h2, q1, q2]⟩
  · rw [qb_has h2]
    refine callS (cmpP q b.at' hq hb) (by simp) ?_
    simp
    exact ⟨fun q2 => by simp [inB, h1, h2, q2], fun q2 => by simp [inB, h1, h2, q2]⟩
theorem qSum_ok (r : Row) (hn : r.terms.length ≤ 1048576) (x : List Rat) (hx : Wd 2200 x) (ht : ∀ k, k < r.terms.length → qw 2200 (gt r.terms k).num ∧ 0 ≤ (gt r.terms k).col ∧ (gt r.terms k).col < x.length) : PureF Tryz.prog 34 [.ro (r.terms.map termQ), .ro (x.map rsv)] (rsv (sumK x r.terms r.terms.length)) := by
  refine pure_enter Tryz.func34 rfl (by simp) (fun C hC => ?_)
  simp
  refine CodeJ.le (Le.nl _) ?_
  simp [nlS, rsv0]
  refine CodeJ.loopL (ι := Nat) (fun k => ⟨26, [(1, .ro (x.map rsv)), (4, .ptr 0 0 0), (5, .ptr 1 0 0), (8, .ro (r.terms.map termQ)), (9, iv r.terms.length), (10, iv k)], [some ⟨4, [rsv 0], false⟩, some ⟨4, [rsv (sumK x r.terms k)], false⟩]⟩)
    (fun k => k ≤ r.terms.length) (fun k => r.terms.length - k) 0 (by simp) ?_ ?_
  · simp [leS, hC, sumK]
    done
  · rintro k hk
    by_cases hlt : k < r.terms.length
    · obtain ⟨h1, h2, h3⟩ := ht k hlt
      have w1 := qw_sumK hx ht k (by omega)
      have w2 := hx (gt r.terms k).col.toNat (by omega)
      have l3 : lget (x.map rsv) (gt r.terms k).col.toNat = rsv (gt x (gt r.terms k).col.toNat) := lget_r (by omega)
      simp (disch := omega) [hlt, lget_terms]
      repeat (refine And.intro (by omega) ?_)
      refine CodeJ.draw (.qs [0, 1, 2, 3, 4, 5, 6, 7] <| .l 8 [] <| .l 9 [] <| .l 10 [1] <| .nil) (by kernel_rfl) (by kernel_rfl) (by simp) ?_
      simp (disch := omega) [hlt, lget_terms, l3]
      repeat (refine And.intro (by omega) ?_)
      refine callS (qMul_ok _ _ (qok_of h1 (by omega)) (qok_of w2 (by omega))) (by simp) ?_
      simp
      refine callS (qAdd_ok _ _ (qok_of w1 (by omega)) (qok_of (qw_mul h1 w2 (by omega)) (by omega))) (by simp) ?_
      simp (disch := omega) [w64]
      repeat (refine And.intro (by omega) ?_)
      exact ⟨k + 1, by omega, by omega, Le.syn (by simp (disch := omega) [leS, hC, w64, sumK])⟩
    · obtain rfl : k = r.terms.length := by omega
      simp
theorem qWithin_ok (q : Rat) (a b : Bo) (hq : qok q) (ha : qok a.at') (hb : qok b.at') : PureF Tryz.prog 85 [rsv q, boQ a, boQ b] (.val (.bool (inB q a b))) := by
  refine pure_enter Tryz.func85 rfl (by simp) (fun C hC => ?_)
  simp
  refine ⟨fun h1 => ?_, fun h1 => ⟨fun h2 => ?_, fun h2 => by simp [inB, h1, h2]⟩⟩
  · refine callS (cmpQ q a.at' hq ha) (by simp) ?_
    simp
    refine ⟨fun q1 => ⟨fun h2 => ?_, fun h2 => by simp [inB, h1, h2, q1]⟩, fun q1 => by simp [inB, h1, q1]⟩
    refine callS (cmpQ q b.at' hq hb) (by simp) ?_
    simp [inB, h1, h2, q1]
  · refine callS (cmpQ q b.at' hq hb) (by simp) ?_
    simp [inB, h1, h2]
set_option maxRecDepth 10000 in
theorem rHolds_ok (p : Prob) (h : Few p) (hw : ProbW p) (hv : validC p = 0) (x : List Rat) (hx : Wd 2200 x) (hl : x.length = p.cols.length) (whole : Bool) : PureF Tryz.prog 33 [probP p, .ro (x.map qsv), bov whole] (bov (holdsB p x whole)) := by
  have nc := h.nc
  have nr := h.nr
  refine pure_enter Tryz.func33 rfl (by simp) (fun C hC => ?_)
  simp [hl]
  refine CodeJ.loopL (ι := Nat) (fun j => ⟨89, [(1, .ro (x.map qsv)), (2, bov whole), (3, .ptr 0 0 0), (7, iv j)], [some ⟨7, [probP p], false⟩]⟩)
    (fun j => j ≤ p.cols.length ∧ ∀ k, k < j → colB p x whole k = true) (fun j => p.cols.length - j) 0 (by simp) ?_ ?_
  · simp [leS, hC]
  · rintro j ⟨hj, hb⟩
    by_cases hlt : j < p.cols.length
    · have w1 := hx j (by omega)
      have w2 := hw.co j hlt
      have no := holds_noC (x := x) (w := whole) hlt
      simp (disch := omega) [hlt, lget_colP]
      repeat (refine And.intro (by omega) ?_)
      refine CodeJ.draw (.qs [0, 1, 2, 3, 4, 5, 6, 7] <| .l 8 [] <| .qs [9] <| .nil) (by kernel_rfl) (by kernel_rfl) (by simp) ?_
      simp (disch := omega) [lget_q, hlt]
      repeat (refine And.intro (by omega) ?_)
      refine callS (rInside_ok (gt x j) (gt p.cols j).low (gt p.cols j).high (qok_of w1 (by omega)) (qok_of w2.2.1 (by omega)) (qok_of w2.2.2 (by omega))) (by simp) ?_
      simp (disch := omega) [lget_q]
      repeat (refine And.intro (by omega) ?_)
      refine callS (pIsWhole_ok (gt x j)) (by simp) ?_
      simp (disch := omega) [w64]
      repeat (refine And.intro (by omega) ?_)
      repeat' (apply And.intro <;> intro _)
      all_goals first | exact no (by simp [colB, *]) | exact ⟨j + 1, ⟨by omega, stp hb (by simp [colB, *])⟩, by omega, Le.syn (by simp (disch := omega) [leS, hC, w64])⟩
    · obtain rfl : j = p.cols.length := by omega
      simp
      refine CodeJ.loopL (ι := Nat) (fun i => ⟨89, [(1, .ro (x.map qsv)), (3, .ptr 0 0 0), (11, iv i)], [some ⟨7, [probP p], false⟩]⟩)
        (fun i => i ≤ p.rows.length ∧ ∀ k, k < i → rowB p x k = true) (fun i => p.rows.length - i) 0 (by simp) ?_ ?_
      · simp [leS, hC]
      · rintro i ⟨hi, hr⟩
        by_cases hlt : i < p.rows.length
        · have to := terms_ok hw hv hl hlt
          have nt := h.nt i hlt
          have ws := qw_sumK hx to (gt p.rows i).terms.length (by omega)
          have w2 := hw.ro i hlt
          have no := holds_noR (x := x) (w := whole) hlt
          simp (disch := omega) [hlt, lget_rowP]
          repeat (refine And.intro (by omega) ?_)
          refine callS (rSum_ok (gt p.rows i) nt x hx to) (by simp) ?_
          simp
          refine CodeJ.draw (.qs [0, 1, 2, 3, 4, 5, 6, 7, 8, 9, 10, 11, 12] <| .l 13 [] <| .qs [14] <| .nil) (by kernel_rfl) (by kernel_rfl) (by simp) ?_
          simp (disch := omega) [hlt, lget_rowP]
          repeat (refine And.intro (by omega) ?_)
          refine callS (rInside_ok _ (gt p.rows i).low (gt p.rows i).high (qok_of ws (by omega)) (qok_of w2.1 (by omega)) (qok_of w2.2 (by omega))) (by simp) ?_
          simp (disch := omega) [w64]
          repeat (refine And.intro (by omega) ?_)
          exact ⟨fun q => no q, fun q => ⟨i + 1, ⟨by omega, stp hr q⟩, by omega, Le.syn (by simp (disch := omega) [leS, hC, w64])⟩⟩
        · obtain rfl : i = p.rows.length := by omega
          simp [holds_yes hb hr]
/-! the program's -/
theorem qHoldsE_ok (p : Prob) (h : Few p) (hv : validC p ≠ 0) (x : List Rat) (whole : Bool) : PureF Tryz.prog 29 [.rop (probQ p) 0, .ro (x.map rsv), bov whole] (.tup [bov false, erV (validC p)]) := by
  have g := qValid_ok p h
  refine pure_enter Tryz.func29 rfl (by simp) (fun C hC => ?_)
  simp
  refine callS (g) (by simp) ?_
  rcases valid_cases p with e | e | e | e
  · exact absurd e hv
  · rw [e, erV_2]; simp
  · rw [e, erV_7]; simp
  · rw [e, erV_4]; simp
theorem qHoldsS_ok (p : Prob) (h : Few p) (hv : validC p = 0) (x : List Rat) (hl : x.length ≠ p.cols.length) (whole : Bool) : PureF Tryz.prog 29 [.rop (probQ p) 0, .ro (x.map rsv), bov whole] (.tup [bov false, erV 4]) := by
  have g := qValid_ok p h
  rw [hv, erV_0] at g
  refine pure_enter Tryz.func29 rfl (by simp) (fun C hC => ?_)
  simp
  refine callS (g) (by simp) ?_
  simp [show ¬ (x.length : Int) = p.cols.length by omega, erV_4]
  refine CodeJ.draw (.qs [0, 1, 2] <| .nil) (by kernel_rfl) (by kernel_rfl) (by simp) ?_
  simp
set_option maxRecDepth 10000 in
theorem qHolds_ok (p : Prob) (h : Few p) (hw : ProbW p) (hv : validC p = 0) (x : List Rat) (hx : Wd 2200 x) (hl : x.length = p.cols.length) (whole : Bool) : PureF Tryz.prog 29 [.rop (probQ p) 0, .ro (x.map rsv), bov whole] (.tup [bov (holdsB p x whole), .val .nilIface]) := by
  have nc := h.nc
  have nr := h.nr
  have g := qValid_ok p h
  rw [hv, erV_0] at g
  refine pure_enter Tryz.func29 rfl (by simp) (fun C hC => ?_)
  simp
  refine callS (g) (by simp) ?_
  simp [hl]
  refine CodeJ.loopL (ι := Nat) (fun j => ⟨83, [(0, .rop (probQ p) 0), (1, .ro (x.map rsv)), (2, bov whole), (30, .ro (p.cols.map colQ)), (31, iv p.cols.length), (32, iv j)], []⟩)
    (fun j => j ≤ p.cols.length ∧ ∀ k, k < j → colB p x whole k = true) (fun j => p.cols.length - j) 0 (by simp) ?_ ?_
  · simp [leS, hC]
  · rintro j ⟨hj, hb⟩
    by_cases hlt : j < p.cols.length
    · have w1 := hx j (by omega)
      have w2 := hw.co j hlt
      have no := holds_noC (x := x) (w := whole) hlt
      simp (disch := omega) [hlt, lget_colQ]
      repeat (refine And.intro (by omega) ?_)
      refine CodeJ.draw (.qs [0, 1, 2, 3, 4, 5, 6, 7] <| .l 8 [] <| .qs [9, 10, 11, 12, 13, 14, 15, 16, 17, 18, 19, 20] <| .l 21 [] <| .qs [22, 23, 24] <| .nil) (by kernel_rfl) (by kernel_rfl) (by simp) ?_
      simp (disch := omega) [lget_r, hlt]
      repeat (refine And.intro (by omega) ?_)
      refine callS (qWithin_ok (gt x j) (gt p.cols j).low (gt p.cols j).high (qok_of w1 (by omega)) (qok_of w2.2.1 (by omega)) (qok_of w2.2.2 (by omega))) (by simp) ?_
      simp (disch := omega) [lget_r, w64]
      repeat (refine And.intro (by omega) ?_)
      refine ⟨fun q1 => ⟨fun q2 => ⟨fun q3 => ⟨by omega, ?_⟩, fun q3 => ?_⟩, fun q2 => ?_⟩, fun q1 => no (by simp [colB, q1])⟩
      · refine callS (qIsWhole_ok (gt x j)) (by simp) ?_
        simp (disch := omega) [w64]
        repeat (refine And.intro (by omega) ?_)
        exact ⟨fun q4 => no (by simp [colB, *]), fun q4 => ⟨j + 1, ⟨by omega, stp hb (by simp [colB, *])⟩, by omega, Le.syn (by simp (disch := omega) [leS, hC, w64])⟩⟩
      · exact ⟨j + 1, ⟨by omega, stp hb (by simp [colB, *])⟩, by omega, Le.syn (by simp (disch := omega) [leS, hC, w64])⟩
      · exact ⟨j + 1, ⟨by omega, stp hb (by simp [colB, *])⟩, by omega, Le.syn (by simp (disch := omega) [leS, hC, w64])⟩
    · obtain rfl : j = p.cols.length := by omega
      simp
      refine CodeJ.loopL (ι := Nat) (fun i => ⟨83, [(0, .rop (probQ p) 0), (1, .ro (x.map rsv)), (66, .ro (p.rows.map rowQ)), (67, iv p.rows.length), (68, iv i)], []⟩)
        (fun i => i ≤ p.rows.length ∧ ∀ k, k < i → rowB p x k = true) (fun i => p.rows.length - i) 0 (by simp) ?_ ?_
      · simp [leS, hC]
      · rintro i ⟨hi, hr⟩
        by_cases hlt : i < p.rows.length
        · have to := terms_ok hw hv hl hlt
          have nt := h.nt i hlt
          have ws := qw_sumK hx to (gt p.rows i).terms.length (by omega)
          have w2 := hw.ro i hlt
          have no := holds_noR (x := x) (w := whole) hlt
          simp (disch := omega) [hlt, lget_rowQ]
          repeat (refine And.intro (by omega) ?_)
          refine CodeJ.draw (.qs [0, 1, 2, 4, 5, 6, 7] <| .l 3 [] <| .l 8 [] <| .qs [9] <| .nil) (by kernel_rfl) (by kernel_rfl) (by simp) ?_
          simp (disch := omega) [hlt, lget_rowQ]
          repeat (refine And.intro (by omega) ?_)
          refine callS (qSum_ok (gt p.rows i) nt x hx to) (by simp) ?_
          simp
          refine callS (qWithin_ok _ (gt p.rows i).low (gt p.rows i).high (qok_of ws (by omega)) (qok_of w2.1 (by omega)) (qok_of w2.2 (by omega))) (by simp) ?_
          simp (disch := omega) [w64]
          repeat (refine And.intro (by omega) ?_)
          exact ⟨fun q => no q, fun q => ⟨i + 1, ⟨by omega, stp hr q⟩, by omega, Le.syn (by simp (disch := omega) [leS, hC, w64])⟩⟩
        · obtain rfl : i = p.rows.length := by omega
          simp [holds_yes hb hr]
theorem qValueE_ok (p : Prob) (h : Few p) (hv : validC p ≠ 0) (x : List Rat) : PureF Tryz.prog 28 [.rop (probQ p) 0, .ro (x.map rsv)] (.tup [rsv 0, erV (validC p)]) := by
  have g := qValid_ok p h
  refine pure_enter Tryz.func28 rfl (by simp) (fun C hC => ?_)
  simp
  refine callS (g) (by simp) ?_
  rcases valid_cases p with e | e | e | e
  · exact absurd e hv
  · rw [e, erV_2]; simp [← rsv0]
  · rw [e, erV_7]; simp [← rsv0]
  · rw [e, erV_4]; simp [← rsv0]
theorem qValueS_ok (p : Prob) (h : Few p) (hv : validC p = 0) (x : List Rat) (hl : x.length ≠ p.cols.length) : PureF Tryz.prog 28 [.rop (probQ p) 0, .ro (x.map rsv)] (.tup [rsv 0, erV 4]) := by
  have g := qValid_ok p h
  rw [hv, erV_0] at g
  refine pure_enter Tryz.func28 rfl (by simp) (fun C hC => ?_)
  simp
  refine callS (g) (by simp) ?_
  simp [show ¬ (x.length : Int) = p.cols.length by omega, erV_4]
  refine CodeJ.draw (.qs [0] <| .q 1 [0] <| .l 2 [0] <| .qs [3] <| .nil) (by kernel_rfl) (by kernel_rfl) (by simp) ?_
  simp [← rsv0]
set_option maxRecDepth 10000 in
theorem qValue_ok (p : Prob) (h : Few p) (hw : ProbW p) (hv : validC p = 0) (x : List Rat) (hx : Wd 2200 x) (hl : x.length = p.cols.length) : PureF Tryz.prog 28 [.rop (probQ p) 0, .ro (x.map rsv)] (.tup [rsv (valK p x p.cols.length), .val .nilIface]) := by
  have nc := h.nc
  have g := qValid_ok p h
  rw [hv, erV_0] at g
  refine pure_enter Tryz.func28 rfl (by simp) (fun C hC => ?_)
  simp
  refine callS (g) (by simp) ?_
  simp [hl]
  refine CodeJ.loopL (ι := Nat) (fun j => ⟨51, [(0, .rop (probQ p) 0), (1, .ro (x.map rsv)), (4, .ptr 0 0 0), (7, .ptr 1 0 0), (33, .ro (p.cols.map colQ)), (34, iv p.cols.length), (35, iv j)], [some ⟨4, [.agg [.val (.bool false), .val (.slice none 0 0), .val (.bool false), .val (.slice none 0 0)]], false⟩, some ⟨4, [rsv (valK p x j)], false⟩]⟩)
    (fun j => j ≤ p.cols.length) (fun j => p.cols.length - j) 0 (by simp) ?_ ?_
  · simp [leS, hC, valK]
  · rintro j hj
    by_cases hlt : j < p.cols.length
    · have w1 := qw_valK hw hx (by omega) j (by omega)
      have w2 := hx j (by omega)
      have w3 := (hw.co j hlt).1
      simp (disch := omega) [hlt, lget_colQ]
      repeat (refine And.intro (by omega) ?_)
      refine CodeJ.draw (.qs [0, 1, 2, 3, 4, 5, 6] <| .l 7 [] <| .l 8 [] <| .l 9 [1] <| .nil) (by kernel_rfl) (by kernel_rfl) (by simp) ?_
      simp (disch := omega) [hlt, lget_r]
      repeat (refine And.intro (by omega) ?_)
      refine callS (qMul_ok _ _ (qok_of w3 (by omega)) (qok_of w2 (by omega))) (by simp) ?_
      simp
      refine callS (qAdd_ok _ _ (qok_of w1 (by omega)) (qok_of (qw_mul w3 w2 (by omega)) (by omega))) (by simp) ?_
      simp (disch := omega) [w64]
      repeat (refine And.intro (by omega) ?_)
      exact ⟨j + 1, by omega, by omega, Le.syn (by simp (disch := omega) [leS, hC, w64, valK])⟩
    · obtain rfl : j = p.cols.length := by omega
      simp
end Go.Proofs
namespace Go.Li
open Go Go.Sv Go.Pl Go.Proofs Go.Tb Go.Ut
def sumN (f : Nat → Rat) : Nat → Rat
  | 0 => 0
  | n + 1 => sumN f n + f n
theorem sumN_congr {f g : Nat → Rat} {n : Nat} (h : ∀ j, j < n → f j = g j) : sumN f n = sumN g n := by
  induction n with
  | zero => rfl
  | succ n ih => simp only [sumN]; rw [ih fun j hj => h j (by omega), h n (by omega)]
theorem sumN_sub {f g : Nat → Rat} {n : Nat} : sumN (fun j => f j - g j) n = sumN f n - sumN g n := by
  induction n with
  | zero => simp only [sumN]; grind
  | succ n ih => simp only [sumN]; rw [ih]; grind
theorem sumN_mul {f : Nat → Rat} {c : Rat} {n : Nat} : sumN (fun j => c * f j) n = c * sumN f n := by
  induction n with
  | zero => simp [sumN]
  | succ n ih => simp only [sumN]; rw [ih]; grind
theorem sumN_add {f g : Nat → Rat} {n : Nat} : sumN (fun j => f j + g j) n = sumN f n + sumN g n := by
  induction n with
  | zero => simp only [sumN]; grind
  | succ n ih => simp only [sumN]; rw [ih]; grind
theorem sumN_at {c : Nat} {v : Rat} : ∀ {n : Nat}, sumN (fun j => if j = c then v else 0) n = if c < n then v else 0
  | 0 => by simp [sumN]
  | n + 1 => by
    simp only [sumN]
    rw [sumN_at]
    by_cases h : n = c
    · subst h; rw [if_neg (by omega), if_pos rfl, if_pos (by omega)]; grind
    · rw [if_neg h]
      by_cases h' : c < n
      · rw [if_pos h', if_pos (by omega)]; grind
      · rw [if_neg h', if_neg (by omega)]; grind
/-- a row's sum, by columns -/
theorem sumK_cols {n : Nat} {ts : List Term} (hb : badT n (-1) ts = false) (x : List Rat) : ∀ k, k ≤ ts.length → sumN (fun j => gt x j * entT (ts.take k) j) n = sumK x ts k
  | 0, _ => by
    have : sumN (fun j => gt x j * entT (ts.take 0) j) n = sumN (fun _ => 0) n := sumN_congr fun j _ => by simp [entT]
    rw [this]
    have z : ∀ m, sumN (fun _ => 0) m = 0 := fun m => by
      induction m with
      | zero => rfl
      | succ m ih => simp only [sumN]; rw [ih]; grind
    rw [z]; rfl
  | k + 1, hk => by
    obtain ⟨h1, h2, h3, h4⟩ := badT_ok hb k (by omega)
    have ih := sumK_cols hb x k (by omega)
    have e : ∀ j, j < n → gt x j * entT (ts.take (k + 1)) j = gt x j * entT (ts.take k) j + if j = (gt ts k).col.toNat then (gt ts k).num * gt x (gt ts k).col.toNat else 0 := fun j hj => by
      rw [take_gt (show k < ts.length by omega), entT_snoc]
      by_cases e : j = (gt ts k).col.toNat
      · have e' : (gt ts k).col = (j : Int) := by omega
        have hn : ∀ k', k' < (ts.take k).length → (gt (ts.take k) k').col ≠ (j : Int) := fun k' hk' => by
          simp only [List.length_take] at hk'
          have e2 : gt (ts.take k) k' = gt ts k' := by
            rw [← gt_get (by simpa using hk'), List.getElem_take, gt_get (by omega)]
          have := h4 k' (by omega)
          rw [e2]; omega
        rw [if_pos e', if_pos hn, if_pos e, entT_no hn, e]; grind
      · have e' : ¬ (gt ts k).col = (j : Int) := by omega
        rw [if_neg e', if_neg e]; grind
    rw [sumN_congr e, sumN_add, ih, sumN_at, if_pos (by omega)]
    rfl
theorem sumK_all {n : Nat} {ts : List Term} (hb : badT n (-1) ts = false) (x : List Rat) : sumN (fun j => gt x j * entT ts j) n = sumK x ts ts.length := by
  have := sumK_cols hb x ts.length (Nat.le_refl _)
  rwa [List.take_length] at this
/-- what the rows come to at x -/
def rowS (p : Prob) (x : List Rat) (i : Nat) : Rat := sumK x (gt p.rows i).terms (gt p.rows i).terms.length
theorem sumD {p : Prob} (hb : ∀ i, i < p.rows.length → badT p.cols.length (-1) (gt p.rows i).terms = false) (x y : List Rat) : ∀ i, i ≤ p.rows.length →
    sumN (fun j => gt x j * dP p y j i) p.cols.length = sumN (fun j => gt x j * (gt p.cols j).cost) p.cols.length - sumN (fun k => gt y k * rowS p x k) i
  | 0, _ => by simp only [sumN, dP]; grind
  | i + 1, hi => by
    have ih := sumD hb x y i (by omega)
    have e : ∀ j, j < p.cols.length → gt x j * dP p y j (i + 1) = gt x j * dP p y j i - gt y i * (gt x j * entT (gt p.rows i).terms j) := fun j _ => by simp only [dP]; grind
    rw [sumN_congr e, sumN_sub, sumN_mul, ih, sumK_all (hb i (by omega)) x]
    simp only [sumN, rowS]; grind
theorem valK_sum (p : Prob) (x : List Rat) : ∀ j, valK p x j = p.shift + sumN (fun k => gt x k * (gt p.cols k).cost) j
  | 0 => by simp only [valK, sumN]; grind
  | j + 1 => by simp only [valK, sumN]; rw [valK_sum p x j]; grind
/-! between two ends -/
def inSp (s : Sp) (q : Rat) : Prop := (s.lo.has = true → s.lo.at' ≤ q) ∧ (s.hi.has = true → q ≤ s.hi.at')
theorem inB_iff {q : Rat} {a b : Bo} : inB q a b = true ↔ (a.has = true → a.at' ≤ q) ∧ (b.has = true → q ≤ b.at') := by
  unfold inB
  simp only [Bool.and_eq_true, Bool.not_eq_true', Bool.and_eq_false_iff, decide_eq_false_iff_not, Rat.not_lt]
  constructor
  · rintro ⟨h1, h2⟩
    refine ⟨fun h => ?_, fun h => ?_⟩
    · rcases h1 with h1 | h1
      · rw [h] at h1; cases h1
      · exact h1
    · rcases h2 with h2 | h2
      · rw [h] at h2; cases h2
      · exact h2
  · rintro ⟨h1, h2⟩
    refine ⟨?_, ?_⟩
    · by_cases h : a.has = true
      · exact .inr (h1 h)
      · exact .inl (by simpa using h)
    · by_cases h : b.has = true
      · exact .inr (h2 h)
      · exact .inl (by simpa using h)
theorem join_has {a b : Bo} {r : Rat} (h : (joinB a b r).has = true) : a.has = true ∧ b.has = true ∧ (joinB a b r).at' = a.at' + b.at' * r := by
  unfold joinB at h ⊢
  by_cases c : a.has = true ∧ b.has = true
  · rw [if_pos c]; exact ⟨c.1, c.2, rfl⟩
  · rw [if_neg c] at h; cases h
theorem inSp_plus {s : Sp} {q z r : Rat} {low high : Bo} (hs : inSp s q) (hz : inB z low high = true) : inSp (plusS s low high r) (q + z * r) := by
  obtain ⟨z1, z2⟩ := inB_iff.1 hz
  unfold plusS
  by_cases h0 : r = 0
  · rw [if_pos h0, h0]
    have : q + z * 0 = q := by grind
    rwa [this]
  · rw [if_neg h0]
    by_cases h1 : r < 0
    · rw [if_pos h1]
      refine ⟨fun h => ?_, fun h => ?_⟩
      · obtain ⟨g1, g2, g3⟩ := join_has h
        show (joinB s.lo high r).at' ≤ _
        rw [g3]
        have m := Rat.mul_le_mul_of_nonneg_right (z2 g2) (show 0 ≤ -r by grind)
        have := hs.1 g1
        grind
      · obtain ⟨g1, g2, g3⟩ := join_has h
        show _ ≤ (joinB s.hi low r).at'
        rw [g3]
        have m := Rat.mul_le_mul_of_nonneg_right (z1 g2) (show 0 ≤ -r by grind)
        have := hs.2 g1
        grind
    · rw [if_neg h1]
      have hr : 0 ≤ r := Rat.not_lt.1 h1
      refine ⟨fun h => ?_, fun h => ?_⟩
      · obtain ⟨g1, g2, g3⟩ := join_has h
        show (joinB s.lo low r).at' ≤ _
        rw [g3]
        have m := Rat.mul_le_mul_of_nonneg_right (z1 g2) hr
        have := hs.1 g1
        grind
      · obtain ⟨g1, g2, g3⟩ := join_has h
        show _ ≤ (joinB s.hi high r).at'
        rw [g3]
        have m := Rat.mul_le_mul_of_nonneg_right (z2 g2) hr
        have := hs.2 g1
        grind
theorem holds_col {p : Prob} {x : List Rat} {w : Bool} (h : holdsB p x w = true) {j : Nat} (hj : j < p.cols.length) : inB (gt x j) (gt p.cols j).low (gt p.cols j).high = true := by
  unfold holdsB at h
  simp only [Bool.and_eq_true, List.all_eq_true, List.mem_range] at h
  have := h.1 j hj
  unfold colB at this
  simp only [Bool.and_eq_true] at this
  exact this.1
theorem holds_row {p : Prob} {x : List Rat} {w : Bool} (h : holdsB p x w = true) {i : Nat} (hi : i < p.rows.length) : inB (rowS p x i) (gt p.rows i).low (gt p.rows i).high = true := by
  unfold holdsB at h
  simp only [Bool.and_eq_true, List.all_eq_true, List.mem_range] at h
  exact h.2 i hi
theorem inSp_R {p : Prob} {x : List Rat} (y : List Rat) (h : holdsB p x false = true) : ∀ i, i ≤ p.rows.length → inSp (spR p y i) (p.shift + sumN (fun k => gt y k * rowS p x k) i)
  | 0, _ => by
    have e : p.shift + sumN (fun k => gt y k * rowS p x k) 0 = p.shift := by simp only [sumN]; grind
    rw [e]; exact ⟨fun _ => Rat.le_refl, fun _ => Rat.le_refl⟩
  | i + 1, hi => by
    have := inSp_plus (r := gt y i) (inSp_R y h i (by omega)) (holds_row h (i := i) (by omega))
    have e : p.shift + sumN (fun k => gt y k * rowS p x k) (i + 1) = p.shift + sumN (fun k => gt y k * rowS p x k) i + rowS p x i * gt y i := by simp only [sumN]; grind
    rw [e]; exact this
theorem inSp_C {p : Prob} {x : List Rat} (y : List Rat) (h : holdsB p x false = true) : ∀ j, j ≤ p.cols.length → inSp (spC p y j) (p.shift + sumN (fun k => gt y k * rowS p x k) p.rows.length + sumN (fun k => gt x k * dP p y k p.rows.length) j)
  | 0, _ => by
    have e : p.shift + sumN (fun k => gt y k * rowS p x k) p.rows.length + sumN (fun k => gt x k * dP p y k p.rows.length) 0 = p.shift + sumN (fun k => gt y k * rowS p x k) p.rows.length := by simp only [sumN]; grind
    rw [e]; exact inSp_R y h _ (Nat.le_refl _)
  | j + 1, hj => by
    have := inSp_plus (r := dP p y j p.rows.length) (inSp_C y h j (by omega)) (holds_col h (j := j) (by omega))
    have e : p.shift + sumN (fun k => gt y k * rowS p x k) p.rows.length + sumN (fun k => gt x k * dP p y k p.rows.length) (j + 1) = p.shift + sumN (fun k => gt y k * rowS p x k) p.rows.length + sumN (fun k => gt x k * dP p y k p.rows.length) j + gt x j * dP p y j p.rows.length := by simp only [sumN]; grind
    rw [e]; exact this
/-- no point beats what prices say -/
theorem weak {p : Prob} (hv : validC p = 0) {x : List Rat} (y : List Rat) (h : holdsB p x false = true) : inSp (spC p y p.cols.length) (valK p x p.cols.length) := by
  have h1 := inSp_C y h p.cols.length (Nat.le_refl _)
  rw [sumD (valid_yes hv).2.2 x y p.rows.length (Nat.le_refl _)] at h1
  rw [valK_sum]
  have e : p.shift + sumN (fun k => gt y k * rowS p x k) p.rows.length + (sumN (fun j => gt x j * (gt p.cols j).cost) p.cols.length - sumN (fun k => gt y k * rowS p x k) p.rows.length) = p.shift + sumN (fun k => gt x k * (gt p.cols k).cost) p.cols.length := by grind
  rwa [e] at h1
/-! nothing holds -/
/-- the problem without costs -/
def free (p : Prob) : Prob := ⟨p.max, p.shift, p.cols.map fun c => { c with cost := 0 }, p.rows⟩
end Go.Li
namespace Go.Sv
open Go
@[simp] theorem ev_func (fr : List (Nat × SV)) (f : FuncId) : ev fr (.func f) = some (.val (.func (.func f) #[] #[])) := rfl
/-- a plain function as a value that may be called -/
def fnX : SV → SV
  | .val (.func (.func f) ⟨[]⟩ ⟨[]⟩) => .fnv f [] []
  | x => x
@[simp] theorem fnX_fn {f : FuncId} : fnX (.val (.func (.func f) #[] #[])) = .fnv f [] [] := rfl
theorem fnX_den {β : Bnd} {H : Hp} {x : SV} {v : Value} (h : Den β H x v) : Den β H (fnX x) v := by
  unfold fnX
  split
  · simp only [Den] at h ⊢
    exact ⟨[], [], h.1, by simp only [DenT], by simp only [DenT]⟩
  · exact h
def fnS (st : St) : St := ⟨st.n, st.fr.map fun p => (p.1, fnX p.2), st.M⟩
theorem get_fn : ∀ {fr : List (Nat × SV)} {t : Nat} {x : SV}, get (fr.map fun p => (p.1, fnX p.2)) t = some x → ∃ y, get fr t = some y ∧ x = fnX y
  | [], t, x, h => by simp [get] at h
  | (s, y) :: r, t, x, h => by
    simp only [List.map_cons, get] at h ⊢
    split at h
    · rename_i e
      simp only [Option.some.injEq] at h
      exact ⟨y, by rw [if_pos e], h.symm⟩
    · rename_i e
      obtain ⟨z, h1, h2⟩ := get_fn (fr := r) h
      exact ⟨z, by rw [if_neg e]; exact h1, h2⟩
theorem Le.fn {C : Ctx} (st : St) : Le C st (fnS st) := by
  rintro a w ⟨β, H, hF, hW⟩
  refine ⟨β, H, ⟨hF.1, hF.2.1, fun t x hg => ?_⟩, hW⟩
  obtain ⟨y, hy, rfl⟩ := get_fn hg
  obtain ⟨v, hv, hd⟩ := hF.2.2 t y hy
  exact ⟨v, hv, fnX_den hd⟩
end Go.Sv
namespace Go.Li
open Go Go.Sv Go.Pl Go.Proofs Go.Tb Go.Ut
structure Clm where
  kind : Int
  x : List Rat
  y : List Rat
  ray : List Rat
  value : Rat
structure ClmT where
  kind : Int
  x : List ByteArray
  y : List ByteArray
  ray : List ByteArray
  value : ByteArray
def clQ (c : Clm) : SV := .agg ([iv c.kind, .ro (c.x.map rsv), .ro (c.y.map rsv), .ro (c.ray.map rsv)] ++ (rsv c.value).cells)
@[simp] theorem clQ_csz (c : Clm) : (clQ c).csz = 8 := rfl
@[simp] theorem clQ_isTup (c : Clm) : (clQ c).isTup = false := rfl
@[simp] theorem clQ_isAgg (c : Clm) : (clQ c).isAgg = true := rfl
@[simp] theorem clQ_one (c : Clm) : (clQ c).one = false := rfl
@[simp] theorem clQ_pure (c : Clm) : (clQ c).pure = true := rfl
@[simp] theorem clQ_lt (n : Nat) (c : Clm) : (clQ c).lt n = true := rfl
@[simp] theorem clQ_uses (n : Nat) (c : Clm) : (clQ c).uses n = false := rfl
@[simp] theorem clQ_ks (c : Clm) : (clQ c).ks = [] := rfl
@[simp] theorem clQ_f0 (c : Clm) : lget (clQ c).cells 0 = iv c.kind := rfl
@[simp] theorem clQ_f1 (c : Clm) : lget (clQ c).cells 1 = .ro (c.x.map rsv) := rfl
@[simp] theorem clQ_f2 (c : Clm) : lget (clQ c).cells 2 = .ro (c.y.map rsv) := rfl
@[simp] theorem clQ_f3 (c : Clm) : lget (clQ c).cells 3 = .ro (c.ray.map rsv) := rfl
@[simp] theorem clQ_f4 (c : Clm) : SV.agg (((clQ c).cells.drop 4).take 4) = rsv c.value := rfl
def clT (c : ClmT) : SV := .agg ([iv c.kind, .ro (c.x.map strv), .ro (c.y.map strv), .ro (c.ray.map strv), strv c.value])
@[simp] theorem clT_csz (c : ClmT) : (clT c).csz = 5 := rfl
@[simp] theorem clT_isTup (c : ClmT) : (clT c).isTup = false := rfl
@[simp] theorem clT_isAgg (c : ClmT) : (clT c).isAgg = true := rfl
@[simp] theorem clT_one (c : ClmT) : (clT c).one = false := rfl
@[simp] theorem clT_pure (c : ClmT) : (clT c).pure = true := rfl
@[simp] theorem clT_lt (n : Nat) (c : ClmT) : (clT c).lt n = true := rfl
@[simp] theorem clT_uses (n : Nat) (c : ClmT) : (clT c).uses n = false := rfl
@[simp] theorem clT_ks (c : ClmT) : (clT c).ks = [] := rfl
@[simp] theorem clT_f0 (c : ClmT) : lget (clT c).cells 0 = iv c.kind := rfl
@[simp] theorem clT_f1 (c : ClmT) : lget (clT c).cells 1 = .ro (c.x.map strv) := rfl
@[simp] theorem clT_f2 (c : ClmT) : lget (clT c).cells 2 = .ro (c.y.map strv) := rfl
@[simp] theorem clT_f3 (c : ClmT) : lget (clT c).cells 3 = .ro (c.ray.map strv) := rfl
@[simp] theorem clT_f4 (c : ClmT) : lget (clT c).cells 4 = strv c.value := rfl
@[simp] theorem clQ_val (c : Clm) : SV.agg (List.take 4 (clQ c).cells.tail.tail.tail.tail) = rsv c.value := rfl
@[simp] theorem clQ_val' (c : Clm) : SV.agg (List.take 4 (List.drop 4 (clQ c).cells)) = rsv c.value := rfl
structure ClW (c : Clm) : Prop where
  x : Wd 2200 c.x
  y : Wd 2200 c.y
  r : Wd 2200 c.ray
  v : qw 2200 c.value
  nx : c.x.length ≤ 1048576
  ny : c.y.length ≤ 1048576
  nr : c.ray.length ≤ 1048576
structure SmCl (c : ClmT) : Prop where
  x : SmN c.x
  y : SmN c.y
  r : SmN c.ray
  v : c.value.size ≤ 1048576
@[simp] theorem spQ_g0 (s : Sp) : lget (spQ s).cells 0 = .val (.bool s.lo.has) := rfl
@[simp] theorem spQ_g5 (s : Sp) : lget (spQ s).cells 5 = .val (.bool s.hi.has) := rfl
@[simp] theorem spQ_t1 (s : Sp) : SV.agg (List.take 4 (spQ s).cells.tail) = rsv s.lo.at' := rfl
@[simp] theorem spQ_t6 (s : Sp) : SV.agg (List.take 4 (List.drop 6 (spQ s).cells)) = rsv s.hi.at' := rfl
@[simp] theorem okE_colQ (l : List Col) : okE 16 (l.map colQ) = True := by cases l <;> simp [okE]
end Go.Li
namespace Go.Proofs
open Go.Sv Go Go.Tb Go.Pl Go.Ut Go.Li
end Go.Proofs

