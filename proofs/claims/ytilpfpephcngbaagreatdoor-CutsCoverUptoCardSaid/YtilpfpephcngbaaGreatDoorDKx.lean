/- The row that rows make: what the program makes of it, and the document. The row that rows make: what the document makes of it. A text of the prover's own. -/
import Derived.Test.YtilpfpephcngbaaGreatDoorDKv
namespace Go.Li
open Go Go.Sv Go.Pl Go.Proofs Go.Tb Go.Ut
def crR (p : Prob) (y : List Rat) (i : Nat) : List Rat := (List.range p.cols.length).map fun j => gS p y j i
def crT (p : Prob) (y : List Rat) (i k : Nat) : List Rat := (List.range p.cols.length).map fun j => gS p y j i + gt y i * entT ((gt p.rows i).terms.take k) j
@[simp] theorem crR_len (p : Prob) (y : List Rat) (i : Nat) : (crR p y i).length = p.cols.length := by simp [crR]
@[simp] theorem crT_len (p : Prob) (y : List Rat) (i k : Nat) : (crT p y i k).length = p.cols.length := by simp [crT]
theorem gt_crR {p : Prob} {y : List Rat} {i j : Nat} (h : j < p.cols.length) : gt (crR p y i) j = gS p y j i := by unfold crR; rw [gt_rng h]
theorem crR_0 (p : Prob) (y : List Rat) : crR p y 0 = List.replicate p.cols.length 0 := by
  refine ext_gt' (by simp) fun j hj => ?_
  simp only [crR_len] at hj
  rw [gt_crR hj, ← gt_get (by simpa using hj)]
  simp [gS]
theorem crT_0 (p : Prob) (y : List Rat) (i : Nat) : crT p y i 0 = crR p y i := by
  unfold crT crR
  refine List.map_congr_left fun j _ => ?_
  simp [entT, Rat.add_zero]
theorem crT_all (p : Prob) (y : List Rat) (i : Nat) : crT p y i (gt p.rows i).terms.length = crR p y (i + 1) := by
  unfold crT crR
  refine List.map_congr_left fun j _ => ?_
  rw [List.take_length]; rfl
theorem crR_skip {p : Prob} {y : List Rat} {i : Nat} (h : gt y i = 0) : crR p y (i + 1) = crR p y i := by
  unfold crR
  refine List.map_congr_left fun j _ => ?_
  simp only [gS]; rw [h]; grind
theorem sdR_skip {p : Prob} {y : List Rat} {i : Nat} (h : gt y i = 0) : sdR p y (i + 1) = sdR p y i := by simp only [sdR]; rw [h]; grind
theorem crT_set {p : Prob} {y : List Rat} {i k : Nat} (hb : badT p.cols.length (-1) (gt p.rows i).terms = false) (hk : k < (gt p.rows i).terms.length) :
    (crT p y i k).set (gt (gt p.rows i).terms k).col.toNat (gt (crT p y i k) (gt (gt p.rows i).terms k).col.toNat + gt y i * (gt (gt p.rows i).terms k).num) = crT p y i (k + 1) := by
  obtain ⟨h1, h2, h3, h4⟩ := badT_ok hb k hk
  have hc : (gt (gt p.rows i).terms k).col.toNat < p.cols.length := by omega
  refine ext_gt' (by simp) fun j hj => ?_
  simp only [List.length_set, crT_len] at hj
  rw [gt_set (by simpa using hj)]
  unfold crT
  rw [gt_rng hj, gt_rng hc, gt_rng hj, take_gt hk, entT_snoc]
  have hm : ∀ k', k' < ((gt p.rows i).terms.take k).length → (gt ((gt p.rows i).terms.take k) k').col < (gt (gt p.rows i).terms k).col := fun k' hk' => by
    simp only [List.length_take] at hk'
    have e : gt ((gt p.rows i).terms.take k) k' = gt (gt p.rows i).terms k' := by
      rw [← gt_get (by simpa using hk'), List.getElem_take, gt_get (by omega)]
    rw [e]; exact h4 k' (by omega)
  by_cases e : (gt (gt p.rows i).terms k).col.toNat = j
  · have e' : (gt (gt p.rows i).terms k).col = (j : Int) := by omega
    have hn : ∀ k', k' < ((gt p.rows i).terms.take k).length → (gt ((gt p.rows i).terms.take k) k').col ≠ (j : Int) := fun k' hk' => by
      have := hm k' hk'; omega
    rw [if_pos e, if_pos e', if_pos hn, e, entT_no hn]
    grind
  · have e' : ¬ (gt (gt p.rows i).terms k).col = (j : Int) := by omega
    rw [if_neg e, if_neg e']
theorem qw_crT {p : Prob} (hw : ProbW p) {y : List Rat} (hy : Wd 2200 y) (hl : p.rows.length ≤ y.length) {i k j : Nat} (hi : i < p.rows.length) (hk : k ≤ (gt p.rows i).terms.length) (hj : j < p.cols.length) : qw (6601 + 4401 * i) (gt (crT p y i k) j) := by
  unfold crT
  rw [gt_rng hj]
  have h1 := qw_gS hw hy hl hj i (by omega)
  have h2 : qw 2200 (entT ((gt p.rows i).terms.take k) j) := by
    rcases entT_take (j := j) hk with e | ⟨q, hq, e⟩
    · rw [e]; exact qw_zero _ (by omega)
    · rw [e]; exact hw.te i hi q hq
  exact qw_mono (qw_add h1 (qw_mul (hy i (by omega)) h2 (by omega))) (by omega)
/-- the first j columns done -/
def ccK (p : Prob) (y : List Rat) (j : Nat) : List Rat := (List.range p.cols.length).map fun i => if i < j then cF p y i else gS p y i p.rows.length
@[simp] theorem ccK_len (p : Prob) (y : List Rat) (j : Nat) : (ccK p y j).length = p.cols.length := by simp [ccK]
theorem ccK_0 (p : Prob) (y : List Rat) : ccK p y 0 = crR p y p.rows.length := rfl
theorem gt_ccK {p : Prob} {y : List Rat} {j i : Nat} (h : i < p.cols.length) : gt (ccK p y j) i = if i < j then cF p y i else gS p y i p.rows.length := by unfold ccK; rw [gt_rng h]
theorem gt_ccK' {p : Prob} {y : List Rat} {j : Nat} (h : j < p.cols.length) : gt (ccK p y j) j = gS p y j p.rows.length := by rw [gt_ccK h, if_neg (by omega)]
theorem ccK_set {p : Prob} {y : List Rat} {j : Nat} (h : j < p.cols.length) : (ccK p y j).set j (cF p y j) = ccK p y (j + 1) := by
  refine ext_gt' (by simp) fun i hi => ?_
  simp only [List.length_set, ccK_len] at hi
  rw [gt_set (by simpa using hi), gt_ccK hi, gt_ccK hi]
  by_cases e : j = i
  · subst e; rw [if_pos rfl, if_pos (by omega)]
  · rw [if_neg e]
    by_cases h' : i < j
    · rw [if_pos h', if_pos (by omega)]
    · rw [if_neg h', if_neg (by omega)]
theorem ccK_skip {p : Prob} {y : List Rat} {j : Nat} (h : j < p.cols.length) (h0 : lessC p y j = 0) : ccK p y (j + 1) = ccK p y j := by
  rw [← ccK_set h]
  refine ext_gt' (by simp) fun i hi => ?_
  simp only [List.length_set, ccK_len] at hi
  rw [gt_set (by simpa using hi)]
  split
  · rename_i e; subst e; rw [gt_ccK' h]; unfold cF; rw [h0]; grind
  · rfl
theorem sdC_skip {p : Prob} {y : List Rat} {j : Nat} (h0 : lessC p y j = 0) : sdC p y (j + 1) = sdC p y j := by simp only [sdC]; rw [h0]; grind
theorem tmF_congr {f g : Nat → Rat} : ∀ {n : Nat}, (∀ j, j < n → f j = g j) → tmF f n = tmF g n
  | 0, _ => rfl
  | n + 1, h => by
    unfold tmF
    rw [h n (by omega), tmF_congr fun j hj => h j (by omega)]
theorem tm_ccK (p : Prob) (y : List Rat) : tmF (gt (ccK p y p.cols.length)) p.cols.length = tmF (cF p y) p.cols.length := tmF_congr fun j hj => by rw [gt_ccK hj, if_pos hj]
theorem openP_R {p : Prob} {y : List Rat} {i : Nat} (h : i < p.rows.length) (ho : opR p y i = true) : openP p y = true := by
  unfold openP
  rw [Bool.or_eq_true, List.any_eq_true]
  exact .inl ⟨i, List.mem_range.2 h, ho⟩
theorem openP_C {p : Prob} {y : List Rat} {j : Nat} (h : j < p.cols.length) (ho : opC p y j = true) : openP p y = true := by
  unfold openP
  rw [Bool.or_eq_true, List.any_eq_true, List.any_eq_true]
  exact .inr ⟨j, List.mem_range.2 h, ho⟩
theorem openP_no {p : Prob} {y : List Rat} (h1 : ∀ i, i < p.rows.length → opR p y i = false) (h2 : ∀ j, j < p.cols.length → opC p y j = false) : openP p y = false := by
  unfold openP
  rw [Bool.or_eq_false_iff]
  exact ⟨List.any_eq_false.2 fun i hi => by simp [h1 i (List.mem_range.1 hi)], List.any_eq_false.2 fun i hi => by simp [h2 i (List.mem_range.1 hi)]⟩
def rowZ0 : SV := .agg [.val (.string .empty), .ro [], .val (.bool false), .val (.bool false), .ro [], .val (.bool false), .ro [], .val (.bool false), .val (.bool false), .ro [], .val (.bool false), .ro []]
@[simp] theorem rowZ0_csz : rowZ0.csz = 12 := rfl
@[simp] theorem rowZ0_isTup : rowZ0.isTup = false := rfl
@[simp] theorem rowZ0_isAgg : rowZ0.isAgg = true := rfl
@[simp] theorem rowZ0_one : rowZ0.one = false := rfl
@[simp] theorem rowZ0_pure : rowZ0.pure = true := rfl
@[simp] theorem rowZ0_lt (n : Nat) : rowZ0.lt n = true := rfl
@[simp] theorem rowZ0_uses (k : Nat) : rowZ0.uses k = false := rfl
@[simp] theorem rowZ0_ks : rowZ0.ks = [] := rfl
theorem combR_sv (p : Prob) (y : List Rat) : rowQ (combR p y) = .agg (.val (.string .empty) :: .ro ((tmF (cF p y) p.cols.length).map termQ) :: .val (.bool false) :: .val (.bool false) :: .ro [] :: .val (.bool false) :: .ro [] :: .val (.bool true) :: (rsv ((sdC p y p.cols.length).floor : Rat)).cells) := by
  show SV.agg ([.val (.string .empty), .ro ((tmF (cF p y) p.cols.length).map termQ)] ++ (boQ ⟨false, 0⟩).cells ++ (boQ ⟨true, ((sdC p y p.cols.length).floor : Rat)⟩).cells) = _
  rw [boQ_no]; rfl
theorem divInt1 (z : Int) : Rat.divInt z 1 = (z : Rat) := by
  have := Rat.num_divInt_den (z : Rat)
  simpa using this
end Go.Li
namespace Go.Proofs
open Go.Sv Go Go.Tb Go.Pl Go.Ut Go.Li
@[simp] theorem fnX_rsv (q : Rat) : fnX (rsv q) = rsv q := rfl
@[simp] theorem fnX_ptr (a b c : Nat) : fnX (.ptr a b c) = .ptr a b c := rfl
theorem qRound_ok (q : Rat) (hq : qok q) : PureF Tryz.prog 165 [rsv q, .val (.func (.func 166) #[] #[])] (rsv (q.floor : Rat)) := by
  have hf := fw_floor hq
  have g := qOf_ok q.floor 1 (by unfold fit; unfold fw at hf; omega) (by unfold fit; decide)
  rw [divInt1] at g
  refine pure_enterJ Tryz.func165 rfl (by simp) (fun C hC => ?_)
  refine CodeJ.le (Le.fn _) ?_
  simp [fnS]
  refine CodeJ.go ?_
  simp
  refine callS (qFloor_ok q hq) (by simp) ?_
  simp
  refine callS (of_ok 1 (by omega) (by omega)) (by simp) ?_
  simp
  refine callS (g) (by simp) ?_
  simp
theorem qWhole_ok (q : Rat) (hq : qok q) : PureF Tryz.prog 103 [rsv q] (rsv (q.floor : Rat)) := by
  refine pure_enter Tryz.func103 rfl (by simp) (fun C hC => ?_)
  simp
  refine callS (qRound_ok q hq) (by simp) ?_
  simp
theorem qPart_ok (q : Rat) (hq : qok q) : PureF Tryz.prog 100 [rsv q] (rsv (q - (q.floor : Rat))) := by
  have hf : qok (q.floor : Rat) := qw_floor hq (by omega)
  refine pure_enter Tryz.func100 rfl (by simp) (fun C hC => ?_)
  simp
  refine CodeJ.draw (.qs [0, 1] <| .l 2 [] <| .l 3 [] <| .l 4 [1] <| .nil) (by kernel_rfl) (by kernel_rfl) (by simp) ?_
  simp
  refine callS (qWhole_ok q hq) (by simp) ?_
  simp
  refine callS (qSub_ok q _ hq hf) (by simp) ?_
  simp
theorem qRow_ok (c : List Rat) (hn : c.length ≤ 1048576) : PureF Tryz.prog 102 [.ro (c.map rsv)] (.ro ((tmF (gt c) c.length).map termQ)) := by
  refine pure_enter Tryz.func102 rfl (by simp) (fun C hC => ?_)
  simp
  refine CodeJ.nil 3 5 rfl ?_
  refine CodeJ.loopL (ι := Nat) (fun j => ⟨24, [(3, .view 0 0 (tmF (gt c) j).length), (6, .ro (c.map rsv)), (7, iv c.length), (8, iv j)], [some ⟨5, (tmF (gt c) j).map termQ, false⟩]⟩)
    (fun j => j ≤ c.length) (fun j => c.length - j) 0 (by simp) ?_ ?_
  · simp [leS, hC, tmF]
  · rintro j hj
    have tl := tmF_len (gt c) j
    by_cases hlt : j < c.length
    · simp (disch := omega) [hlt, lget_r]
      repeat (refine And.intro (by omega) ?_)
      refine callS (sgnQ (gt c j)) (by simp) ?_
      simp (disch := omega) [w64]
      repeat (refine And.intro (by omega) ?_)
      refine ⟨fun q => ?_, fun q => ?_⟩
      · exact ⟨⟨by simp [hC], by omega⟩, j + 1, by omega, by omega, Le.syn (by simp (disch := omega) [leS, hC, w64, tmF, q, termQ_mk])⟩
      · exact ⟨j + 1, by omega, by omega, Le.syn (by simp (disch := omega) [leS, hC, w64, tmF, q])⟩
    · obtain rfl : j = c.length := by omega
      simp
set_option maxRecDepth 20000 in
theorem qComb_ok (p : Prob) (h : Few p) (hw : ProbW p) (hv : validC p = 0) (y : List Rat) (hy : Wd 2200 y) (hl : y.length = p.rows.length) : PureF Tryz.prog 40 [.rop (probQ p) 0, .ro (y.map rsv)] (if openP p y = true then .tup [rowZ0, erV 10] else .tup [rowQ (combR p y), .val .nilIface]) := by
  have g := qValid_ok p h
  rw [hv, erV_0] at g
  obtain ⟨v1, v2, v3⟩ := valid_yes hv
  refine pure_enter Tryz.func40 rfl (by simp) (fun C hC => ?_)
  simp
  refine callS (g) (by simp) ?_
  simp [hl]
  refine ⟨⟨by omega, by omega⟩, ?_⟩
  refine CodeJ.le (Le.nl _) ?_
  simp [nlS, rsv0, nlL_rep]
  refine CodeJ.loopL (ι := Nat) (fun i => ⟨164, [(0, .rop (probQ p) 0), (1, .ro (y.map rsv)), (4, .ptr 0 0 0), (7, .view 1 0 p.cols.length), (8, .ptr 2 0 0), (43, .ro (p.rows.map rowQ)), (44, iv p.rows.length), (45, iv i)], [some ⟨12, [rowZ0], false⟩, some ⟨4, (crR p y i).map rsv, false⟩, some ⟨4, [rsv (sdR p y i)], false⟩]⟩)
    (fun i => i ≤ p.rows.length ∧ ∀ k, k < i → opR p y k = false) (fun i => p.rows.length - i) 0 (by simp) ?_ ?_
  · simp [leS, hC, crR_0, sdR, rowZ0]
    done
  · rintro i ⟨hi, ho⟩
    by_cases hlt : i < p.rows.length
    · have nt := h.nt i hlt
      have w1 := hy i (by omega)
      have w2 := qw_sgR hw hlt (gt y i)
      have w3 := qw_sdR hw hy (by omega) i (by omega)
      simp (disch := omega) [hlt, lget_rowQ, lget_r]
      repeat (refine And.intro (by omega) ?_)
      refine callS (sgnQ (gt y i)) (by simp) ?_
      simp (disch := omega) [lget_r]
      repeat (refine And.intro (by omega) ?_)
      refine ⟨fun hn => ?_, fun hn => ?_⟩
      all_goals
        first
          | rw [show (gt p.rows i).low = sgR (gt p.rows i) (gt y i) by unfold sgR; rw [if_pos hn]]
          | rw [show (gt p.rows i).high = sgR (gt p.rows i) (gt y i) by unfold sgR; rw [if_neg hn]]
        refine ⟨by omega, ?_⟩
        refine callS (sgnQ (gt y i)) (by simp) ?_
        simp (disch := omega) [w64]
        repeat (refine And.intro (by omega) ?_)
        refine ⟨fun h0 => ?_, fun h0 => ?_⟩
        · have o0 : opR p y i = false := by unfold opR; simp [h0]
          exact ⟨i + 1, ⟨by omega, stp ho o0⟩, by omega, Le.syn (by simp (disch := omega) [leS, hC, w64, crR_skip h0, sdR_skip h0])⟩
        · refine ⟨fun h1 => ?_, fun h1 => ?_⟩
          · have := openP_R hlt (show opR p y i = true by unfold opR; simp [h0, h1])
            refine CodeJ.draw (.qs [0] <| .q 1 [0] <| .l 2 [0] <| .qs [3] <| .nil) (by kernel_rfl) (by kernel_rfl) (by simp) ?_
            simp [this, erV_10, rowZ0]
          · refine CodeJ.draw (.qs [0, 1, 2, 3, 4, 5, 6] <| .l 7 [] <| .l 8 [] <| .l 9 [2] <| .nil) (by kernel_rfl) (by kernel_rfl) (by simp) ?_
            simp (disch := omega) [lget_r]
            repeat (refine And.intro (by omega) ?_)
            refine callS (qMul_ok _ _ (qok_of w1 (by omega)) (qok_of w2 (by omega))) (by simp) ?_
            simp
            refine callS (qAdd_ok _ _ (qok_of w3 (by omega)) (qok_of (qw_mul w1 w2 (by omega)) (by omega))) (by simp) ?_
            simp
            have o1 : opR p y i = false := by unfold opR; simp [h1]
            have w4 := qw_sdR hw hy (by omega) (i + 1) (by omega)
            refine CodeJ.loopL (ι := Nat) (fun k => ⟨164, [(0, .rop (probQ p) 0), (1, .ro (y.map rsv)), (4, .ptr 0 0 0), (7, .view 1 0 p.cols.length), (8, .ptr 2 0 0), (9, iv i), (43, .ro (p.rows.map rowQ)), (44, iv p.rows.length), (45, iv i), (81, .ro ((gt p.rows i).terms.map termQ)), (82, iv (gt p.rows i).terms.length), (83, iv k)], [some ⟨12, [rowZ0], false⟩, some ⟨4, (crT p y i k).map rsv, false⟩, some ⟨4, [rsv (sdR p y (i + 1))], false⟩]⟩)
              (fun k => k ≤ (gt p.rows i).terms.length) (fun k => (gt p.rows i).terms.length - k) 0 (by simp) ?_ ?_
            · simp [leS, hC, crT_0, sdR]
            · rintro k hk
              by_cases hkl : k < (gt p.rows i).terms.length
              · obtain ⟨b1, b2, -, -⟩ := badT_ok (v3 i hlt) k hkl
                have w5 := hw.te i hlt k hkl
                have w6 := qw_crT hw hy (by omega) hlt (show k ≤ _ by omega) (show (gt (gt p.rows i).terms k).col.toNat < p.cols.length by omega)
                have e1 := crT_set (y := y) (v3 i hlt) hkl
                simp (disch := omega) [hkl, lget_terms, lget_r, w64]
                repeat (refine And.intro (by omega) ?_)
                refine CodeJ.draw (.qs [0, 1, 2, 3, 4, 5, 6, 7, 8, 9, 10, 11, 12, 13] <| .l 14 [] <| .l 15 [] <| .qs [16] <| .l 17 [1] <| .nil) (by kernel_rfl) (by kernel_rfl) (by simp) ?_
                have l3 : lget ((crT p y i k).map rsv) (gt (gt p.rows i).terms k).col.toNat = rsv (gt (crT p y i k) (gt (gt p.rows i).terms k).col.toNat) := lget_r (by simp; omega)
                simp (disch := omega) [hkl, lget_terms, lget_r, l3, w64]
                repeat (refine And.intro (by omega) ?_)
                refine callS (qMul_ok _ _ (qok_of w1 (by omega)) (qok_of w5 (by omega))) (by simp) ?_
                simp
                refine callS (qAdd_ok _ _ (qok_of w6 (by omega)) (qok_of (qw_mul w1 w5 (by omega)) (by omega))) (by simp) ?_
                simp (disch := omega) [l3]
                repeat (refine And.intro (by omega) ?_)
                have l4 : lset ((crT p y i k).map rsv) (gt (gt p.rows i).terms k).col.toNat (rsv (gt (crT p y i k) (gt (gt p.rows i).terms k).col.toNat + gt y i * (gt (gt p.rows i).terms k).num)) = (crT p y i (k + 1)).map rsv := by rw [lset_eq, r_set, e1]
                exact ⟨k + 1, by omega, by omega, Le.syn (by simp (disch := omega) [leS, hC, w64, l4])⟩
              · obtain rfl : k = (gt p.rows i).terms.length := by omega
                simp (disch := omega) [w64]
                repeat (refine And.intro (by omega) ?_)
                exact ⟨i + 1, ⟨by omega, stp ho o1⟩, by omega, Le.syn (by simp (disch := omega) [leS, hC, w64, crT_all])⟩
    · obtain rfl : i = p.rows.length := by omega
      simp
      refine CodeJ.loopL (ι := Nat) (fun j => ⟨164, [(4, .ptr 0 0 0), (7, .view 1 0 p.cols.length), (8, .ptr 2 0 0), (109, .ro (p.cols.map colQ)), (110, iv p.cols.length), (111, iv j)], [some ⟨12, [rowZ0], false⟩, some ⟨4, (ccK p y j).map rsv, false⟩, some ⟨4, [rsv (sdC p y j)], false⟩]⟩)
        (fun j => j ≤ p.cols.length ∧ ∀ k, k < j → opC p y k = false) (fun j => p.cols.length - j) 0 (by simp) ?_ ?_
      · simp [leS, hC, ccK_0, sdC]
        done
      · rintro j ⟨hj, hoc⟩
        by_cases hjl : j < p.cols.length
        · have w1 := qw_gS hw hy (by omega) hjl p.rows.length (Nat.le_refl _)
          have w2 := qw_less hw hy (by omega) hjl
          have w3 := qw_sgC hw hjl (lessC p y j)
          have w4 := qw_sdC hw hy (by omega) v1 j (by omega)
          have g1 := gt_ccK' (y := y) hjl
          have l3 : lget ((ccK p y j).map rsv) j = rsv (gS p y j p.rows.length) := by rw [lget_r (by simpa using hjl), g1]
          simp (disch := omega) [hjl, lget_colQ, l3, w64]
          repeat (refine And.intro (by omega) ?_)
          refine ⟨fun hwh => ?_, fun hwh => ?_⟩
          · refine callS (qPart_ok _ (qok_of w1 (by omega))) (by simp) ?_
            simp
            have el : gS p y j p.rows.length - ((gS p y j p.rows.length).floor : Rat) = lessC p y j := by unfold lessC; rw [if_pos hwh]
            rw [el]
            have := hwh
            refine callS (sgnQ (lessC p y j)) (by simp) ?_
            simp
            refine ⟨fun hn => ?_, fun hn => ?_⟩
            all_goals
              first
                | rw [show (gt p.cols j).high = sgC (gt p.cols j) (lessC p y j) by unfold sgC; rw [if_pos hn]]
                | rw [show (gt p.cols j).low = sgC (gt p.cols j) (lessC p y j) by unfold sgC; rw [if_neg hn]]
              refine callS (sgnQ (lessC p y j)) (by simp) ?_
              simp (disch := omega) [w64]
              repeat (refine And.intro (by omega) ?_)
              refine ⟨fun h0 => ?_, fun h0 => ?_⟩
              · have o0 : opC p y j = false := by unfold opC; simp [h0]
                exact ⟨j + 1, ⟨by omega, stp hoc o0⟩, by omega, Le.syn (by simp (disch := omega) [leS, hC, w64, ccK_skip hjl h0, sdC_skip h0])⟩
              · refine ⟨fun h1 => ?_, fun h1 => ?_⟩
                · have := openP_C hjl (show opC p y j = true by unfold opC; simp [h0, h1])
                  refine CodeJ.draw (.qs [0] <| .q 1 [0] <| .l 2 [0] <| .qs [3] <| .nil) (by kernel_rfl) (by kernel_rfl) (by simp) ?_
                  simp [this, erV_10, rowZ0]
                · have o1 : opC p y j = false := by unfold opC; simp [h1]
                  refine CodeJ.draw (.qs [0, 1, 2, 3] <| .l 4 [] <| .l 5 [] <| .l 6 [2] <| .nil) (by kernel_rfl) (by kernel_rfl) (by simp) ?_
                  simp
                  refine callS (qMul_ok _ _ (qok_of w2 (by omega)) (qok_of w3 (by omega))) (by simp) ?_
                  simp
                  refine callS (qSub_ok _ _ (qok_of w4 (by omega)) (qok_of (qw_mul w2 w3 (by omega)) (by omega))) (by simp) ?_
                  simp
                  refine CodeJ.draw (.qs [0, 1, 2, 3, 4, 5, 6] <| .l 7 [] <| .qs [8] <| .l 9 [1] <| .nil) (by kernel_rfl) (by kernel_rfl) (by simp) ?_
                  simp (disch := omega) [l3]
                  repeat (refine And.intro (by omega) ?_)
                  refine callS (qSub_ok _ _ (qok_of w1 (by omega)) (qok_of w2 (by omega))) (by simp) ?_
                  simp (disch := omega) [l3, w64]
                  repeat (refine And.intro (by omega) ?_)
                  have l4 : lset ((ccK p y j).map rsv) j (rsv (gS p y j p.rows.length - lessC p y j)) = (ccK p y (j + 1)).map rsv := by
                    rw [lset_eq, r_set, ← ccK_set hjl]; rfl
                  exact ⟨j + 1, ⟨by omega, stp hoc o1⟩, by omega, Le.syn (by simp (disch := omega) [leS, hC, w64, l4, sdC])⟩
          · have el : gS p y j p.rows.length = lessC p y j := by unfold lessC; rw [if_neg (by simp [hwh])]
            have l3' := l3
            rw [el] at l3'
            rw [el]
            refine callS (sgnQ (lessC p y j)) (by simp) ?_
            simp
            refine ⟨fun hn => ?_, fun hn => ?_⟩
            all_goals
              first
                | rw [show (gt p.cols j).high = sgC (gt p.cols j) (lessC p y j) by unfold sgC; rw [if_pos hn]]
                | rw [show (gt p.cols j).low = sgC (gt p.cols j) (lessC p y j) by unfold sgC; rw [if_neg hn]]
              refine callS (sgnQ (lessC p y j)) (by simp) ?_
              simp (disch := omega) [w64]
              repeat (refine And.intro (by omega) ?_)
              refine ⟨fun h0 => ?_, fun h0 => ?_⟩
              · have o0 : opC p y j = false := by unfold opC; simp [h0]
                exact ⟨j + 1, ⟨by omega, stp hoc o0⟩, by omega, Le.syn (by simp (disch := omega) [leS, hC, w64, ccK_skip hjl h0, sdC_skip h0])⟩
              · refine ⟨fun h1 => ?_, fun h1 => ?_⟩
                · have := openP_C hjl (show opC p y j = true by unfold opC; simp [h0, h1])
                  refine CodeJ.draw (.qs [0] <| .q 1 [0] <| .l 2 [0] <| .qs [3] <| .nil) (by kernel_rfl) (by kernel_rfl) (by simp) ?_
                  simp [this, erV_10, rowZ0]
                · have o1 : opC p y j = false := by unfold opC; simp [h1]
                  refine CodeJ.draw (.qs [0, 1, 2, 3] <| .l 4 [] <| .l 5 [] <| .l 6 [2] <| .nil) (by kernel_rfl) (by kernel_rfl) (by simp) ?_
                  simp
                  refine callS (qMul_ok _ _ (qok_of w2 (by omega)) (qok_of w3 (by omega))) (by simp) ?_
                  simp
                  refine callS (qSub_ok _ _ (qok_of w4 (by omega)) (qok_of (qw_mul w2 w3 (by omega)) (by omega))) (by simp) ?_
                  simp
                  refine CodeJ.draw (.qs [0, 1, 2, 3, 4, 5, 6] <| .l 7 [] <| .qs [8] <| .l 9 [1] <| .nil) (by kernel_rfl) (by kernel_rfl) (by simp) ?_
                  simp (disch := omega) [l3]
                  repeat (refine And.intro (by omega) ?_)
                  refine callS (qSub_ok _ _ (qok_of w1 (by omega)) (qok_of w2 (by omega))) (by simp) ?_
                  simp (disch := omega) [l3, w64]
                  repeat (refine And.intro (by omega) ?_)
                  have l4 : lset ((ccK p y j).map rsv) j (rsv (gS p y j p.rows.length - lessC p y j)) = (ccK p y (j + 1)).map rsv := by
                    rw [lset_eq, r_set, ← ccK_set hjl]; rfl
                  exact ⟨j + 1, ⟨by omega, stp hoc o1⟩, by omega, Le.syn (by simp (disch := omega) [leS, hC, w64, l4, sdC])⟩
        · obtain rfl : j = p.cols.length := by omega
          have w4 := qw_sdC hw hy (by omega) v1 p.cols.length (Nat.le_refl _)
          have op := openP_no ho hoc
          simp
          refine CodeJ.frz 1 rfl (by simp) ?_
          have tk : List.take p.cols.length ((ccK p y p.cols.length).map rsv) = (ccK p y p.cols.length).map rsv := List.take_of_length_le (by simp)
          simp [frzS, tset, tk]
          refine CodeJ.draw (.qs [0, 2] <| .l 1 [] <| .l 3 [] <| .qs [4, 5] <| .l 6 [0] <| .qs [7] <| .nil) (by kernel_rfl) (by kernel_rfl) (by simp) ?_
          simp
          have gr := qRow_ok (ccK p y p.cols.length) (by simp; omega)
          rw [ccK_len, tm_ccK] at gr
          refine callS (gr) (by simp) ?_
          simp
          refine callS (qWhole_ok _ (qok_of w4 (by omega))) (by simp) ?_
          simp
          rw [if_neg (by simp [op]), combR_sv]
          simp
          exact SubL_self _ _ rfl
end Go.Proofs
namespace Go.Li
open Go Go.Sv Go.Pl Go.Proofs Go.Tb Go.Ut
/-- the first j of one kind, the rest of another one -/
def mixL (f g : Nat → Rat) (n j : Nat) : List Rat := (List.range n).map fun i => if i < j then f i else g i
@[simp] theorem mixL_len (f g : Nat → Rat) (n j : Nat) : (mixL f g n j).length = n := by simp [mixL]
def rowY0 : SV := .agg [.val (.string .empty), .ro [], .ro [], .val (.bool false), .val (.bool false), .ro [], .val (.bool false), .ro [], .val (.bool false), .val (.bool false), .ro [], .val (.bool false), .ro []]
@[simp] theorem rowY0_csz : rowY0.csz = 13 := rfl
@[simp] theorem rowY0_isTup : rowY0.isTup = false := rfl
@[simp] theorem rowY0_isAgg : rowY0.isAgg = true := rfl
@[simp] theorem rowY0_one : rowY0.one = false := rfl
@[simp] theorem rowY0_pure : rowY0.pure = true := rfl
@[simp] theorem rowY0_lt (n : Nat) : rowY0.lt n = true := rfl
@[simp] theorem rowY0_uses (k : Nat) : rowY0.uses k = false := rfl
@[simp] theorem rowY0_ks : rowY0.ks = [] := rfl
theorem rowP_hi (ts : List Term) (q : Rat) : rowP ⟨.empty, ts, ⟨false, 0⟩, ⟨true, q⟩⟩ = .agg (.val (.string .empty) :: .ro (ts.map fun t => iv t.col) :: .ro (ts.map fun t => qsv t.num) :: .val (.bool false) :: .val (.bool false) :: .ro [] :: .val (.bool false) :: .ro [] :: .val (.bool true) :: (qsv q).cells) := by
  show SV.agg ([.val (.string .empty), .ro (ts.map fun t => iv t.col), .ro (ts.map fun t => qsv t.num)] ++ (boP ⟨false, 0⟩).cells ++ (boP ⟨true, q⟩).cells) = _
  rw [boP_no]; rfl
end Go.Li
namespace Go.Proofs
open Go.Sv Go Go.Tb Go.Pl Go.Ut Go.Li
end Go.Proofs

