/- Rows in texts, and back; small functions of the laws about cuts. What the law CutsCombine returns. A text of the prover's own. -/
import Derived.Test.YtilpfpephcngbaaGreatDoorLKx
import Derived.Test.YtilpfpephcngbaaGreatDoorLKu
namespace Go.Li
open Go Go.Sv Go.Pl Go.Proofs Go.Tb Go.Ut
def boT (b : Bo) : ByteArray := if b.has = true then qtxt b.at' else e0
def rowTx (r : Row) : RowT := ⟨r.name, boT r.low, boT r.high, r.terms.map (·.col), r.terms.map fun t => qtxt t.num⟩
structure RowW (r : Row) : Prop where
  n : r.terms.length ≤ 120
  t : ∀ k, k < r.terms.length → qw 10000000 (gt r.terms k).num
  lo : qw 10000000 r.low.at'
  hi : qw 10000000 r.high.at'
theorem boT_yes {b : Bo} (h : b.has = true) : boT b = qtxt b.at' := by unfold boT; rw [if_pos h]
theorem boT_no {b : Bo} (h : b.has = false) : boT b = e0 := by unfold boT; rw [if_neg (by simp [h])]
def probZ (p : Prob) : SV := .agg ([bov p.max] ++ (qnil).cells ++ [.ro (p.cols.map colP), .ro (p.rows.map rowP)])
@[simp] theorem probZ_csz (p : Prob) : (probZ p).csz = 7 := rfl
@[simp] theorem probZ_isTup (p : Prob) : (probZ p).isTup = false := rfl
@[simp] theorem probZ_isAgg (p : Prob) : (probZ p).isAgg = true := rfl
@[simp] theorem probZ_one (p : Prob) : (probZ p).one = false := rfl
@[simp] theorem probZ_pure (p : Prob) : (probZ p).pure = true := rfl
@[simp] theorem probZ_lt (n : Nat) (p : Prob) : (probZ p).lt n = true := rfl
@[simp] theorem probZ_uses (n : Nat) (p : Prob) : (probZ p).uses n = false := rfl
@[simp] theorem probZ_ks (p : Prob) : (probZ p).ks = [] := rfl
@[simp] theorem probZ_f0 (p : Prob) : lget (probZ p).cells 0 = bov p.max := rfl
@[simp] theorem probZ_f1 (p : Prob) : SV.agg (((probZ p).cells.drop 1).take 4) = qnil := rfl
@[simp] theorem probZ_f5 (p : Prob) : lget (probZ p).cells 5 = .ro (p.cols.map colP) := rfl
@[simp] theorem probZ_f6 (p : Prob) : lget (probZ p).cells 6 = .ro (p.rows.map rowP) := rfl
@[simp] theorem boPc_fgt (b : Bo) (k : Nat) : (boP b).cells.map (fun y => if SV.uses k y = true then SV.any else y) = (boP b).cells := rfl
@[simp] theorem qc_lset (q : Rat) (r : List SV) (n : Nat) (x : SV) : lset ((qsv q).cells ++ r) (n + 4) x = (qsv q).cells ++ lset r n x := rfl
@[simp] theorem qc_lget (q : Rat) (r : List SV) (n : Nat) : lget ((qsv q).cells ++ r) (n + 4) = lget r n := rfl
@[simp] theorem qc_fgt (q : Rat) (k : Nat) : (qsv q).cells.map (fun y => if SV.uses k y = true then SV.any else y) = (qsv q).cells := rfl
def colN1 : SV := .agg (.val (.string .empty) :: .val (.bool false) :: .val (.bool false) :: .val (.bool false) :: .val (.slice none 0 0) :: .val (.bool false) :: .val (.slice none 0 0) :: .val (.bool false) :: .val (.bool false) :: .val (.slice none 0 0) :: .val (.bool false) :: .val (.slice none 0 0) :: (qsv 0).cells)
@[simp] theorem colN1_csz : colN1.csz = 16 := rfl
@[simp] theorem colN1_isTup : colN1.isTup = false := rfl
@[simp] theorem colN1_isAgg : colN1.isAgg = true := rfl
@[simp] theorem colN1_one : colN1.one = false := rfl
@[simp] theorem colN1_pure : colN1.pure = true := rfl
@[simp] theorem colN1_lt (n : Nat) : colN1.lt n = true := rfl
@[simp] theorem colN1_uses (k : Nat) : colN1.uses k = false := rfl
@[simp] theorem colN1_ks : colN1.ks = [] := rfl
end Go.Li
namespace Go.Proofs
open Go.Sv Go Go.Tb Go.Pl Go.Ut Go.Li
theorem qBoText_ok (b : Bo) (h : qok b.at') : PureF Tryz.prog 164 [boQ b] (strv (boT b)) := by
  refine pure_enter Tryz.func164 rfl (by simp) (fun C hC => ?_)
  simp
  refine ⟨fun h1 => by rw [boT_no h1]; rfl, fun h1 => ?_⟩
  refine callS (qText_ok b.at' h) (by simp) ?_
  simp [boT_yes h1]
set_option maxRecDepth 10000 in
theorem qRowSpec_ok (r : Row) (h : RowW r) : PureF Tryz.prog 105 [rowQ r] (rowT (rowTx r)) := by
  have hn := h.n
  refine pure_enterW Tryz.func105 rfl (by simp) (fun C hC => ?_)
  simp
  refine CodeJ.drawZ (.d 9 <| .qs [0, 1, 2, 3, 5, 6] <| .p 4 <| .p 7 <| .qs [8] <| .b (.l 10 [2] <| .nil)) (by kernel_rfl) (by kernel_rfl) (by simp) ?_
  simp
  refine callV (qBoText_ok r.low (qok_of h.lo (by omega))) (by simp) ?_
  simp
  refine callV (qBoText_ok r.high (qok_of h.hi (by omega))) (by simp) ?_
  simp
  refine CodeJ.le (Le.nilCell 2 3 1 rfl rfl rfl rfl (by simp)) ?_
  simp [tset]
  refine CodeJ.le (Le.nilCell 2 4 1 rfl rfl rfl rfl (by simp)) ?_
  refine CodeJ.loopL (ι := Nat) (fun k => ⟨39, [(2, .ptr 1 0 0), (3, .ptr 2 0 0), (16, .ro (r.terms.map termQ)), (17, iv r.terms.length), (18, iv k)], [some ⟨12, [rowQ r], false⟩, some ⟨5, [.agg [.val (.string .empty), .val (.string .empty), .val (.string .empty), .val (.slice none 0 0), .val (.slice none 0 0)]], false⟩,
      some ⟨5, [.agg [strv r.name, strv (boT r.low), strv (boT r.high), .view 3 0 k, .view 4 0 k]], false⟩, some ⟨1, ((rowTx r).cols.take k).map iv, false⟩, some ⟨1, ((rowTx r).nums.take k).map strv, false⟩]⟩)
    (fun k => k ≤ r.terms.length) (fun k => r.terms.length - k) 0 (by simp) ?_ ?_
  · simp [leS, hC, tset]
  · rintro k hk
    have hl1 : (rowTx r).cols.length = r.terms.length := by simp [rowTx]
    have hl2 : (rowTx r).nums.length = r.terms.length := by simp [rowTx]
    by_cases hlt : k < r.terms.length
    · have g1 : gt (rowTx r).cols k = (gt r.terms k).col := by unfold rowTx; rw [gt_map _ hlt]
      have g2 : gt (rowTx r).nums k = qtxt (gt r.terms k).num := by unfold rowTx; rw [gt_map _ hlt]
      simp (disch := omega) [hlt, lget_terms, w64]
      repeat (refine And.intro (by omega) ?_)
      refine ⟨⟨by simp [hC], by omega⟩, ?_⟩
      refine CodeJ.draw (.qs [0, 1, 2, 3] <| .l 4 [] <| .l 5 [] <| .l 6 [1000000] <| .qs [7] <| .l 8 [2, 1000000] <| .nil) (by kernel_rfl) (by kernel_rfl) (by simp) ?_
      simp
      refine callS (qText_ok _ (qok_of (h.t k hlt) (by omega))) (by simp) ?_
      simp (disch := omega) [w64]
      repeat (refine And.intro (by omega) ?_)
      exact ⟨⟨by simp [hC], by omega⟩, k + 1, by omega, by omega, Le.syn (by simp (disch := omega) [leS, hC, w64, take1 iv (show k < (rowTx r).cols.length by omega), take1 strv (show k < (rowTx r).nums.length by omega), g1, g2])⟩
    · obtain rfl : k = r.terms.length := by omega
      simp
      refine ⟨_, (Le.frz 4 rfl (by simp)).trans (Le.frz 3 rfl (by simp)), ?_⟩
      have t1 : ((rowTx r).cols.map iv).take r.terms.length = (rowTx r).cols.map iv := List.take_of_length_le (by simp [hl1])
      have t2 : ((rowTx r).nums.map strv).take r.terms.length = (rowTx r).nums.map strv := List.take_of_length_le (by simp [hl2])
      simp [frzS, tset, t1, t2, hl1, hl2]
      exact Sub_self _ _ rfl
theorem sameInts2_ok (l : List Int) (h : l.length ≤ 1048576) : PureF Tryz.prog 167 [.ro (l.map iv), .ro (l.map iv)] (bov true) := by
  refine pure_enter Tryz.func167 rfl (by simp) (fun C hC => ?_)
  simp
  refine CodeJ.loopL (ι := Nat) (fun i => ⟨26, [(0, .ro (l.map iv)), (1, .ro (l.map iv)), (5, iv i)], []⟩)
    (fun i => i ≤ l.length) (fun i => l.length - i) 0 (by simp) ?_ ?_
  · simp [leS, hC]
  · rintro i hi
    by_cases hlt : i < l.length
    · simp (disch := omega) [hlt, lget_iv]
      repeat (refine And.intro (by omega) ?_)
      refine CodeJ.draw (.qs [0, 1, 2, 3, 4, 5, 6, 7, 8] <| .nil) (by kernel_rfl) (by kernel_rfl) (by simp) ?_
      simp (disch := omega) [hlt, lget_iv, w64]
      repeat (refine And.intro (by omega) ?_)
      exact ⟨i + 1, by omega, by omega, Le.syn (by simp (disch := omega) [leS, hC, w64])⟩
    · obtain rfl : i = l.length := by omega
      simp
theorem sameTexts2_ok (l : List ByteArray) (h : l.length ≤ 1048576) : PureF Tryz.prog 168 [.ro (l.map strv), .ro (l.map strv)] (bov true) := by
  refine pure_enter Tryz.func168 rfl (by simp) (fun C hC => ?_)
  simp
  refine CodeJ.loopL (ι := Nat) (fun i => ⟨26, [(0, .ro (l.map strv)), (1, .ro (l.map strv)), (5, iv i)], []⟩)
    (fun i => i ≤ l.length) (fun i => l.length - i) 0 (by simp) ?_ ?_
  · simp [leS, hC]
  · rintro i hi
    by_cases hlt : i < l.length
    · simp (disch := omega) [hlt, lget_str]
      repeat (refine And.intro (by omega) ?_)
      refine CodeJ.draw (.qs [0, 1, 2, 3, 4, 5, 6, 7, 8] <| .nil) (by kernel_rfl) (by kernel_rfl) (by simp) ?_
      simp (disch := omega) [hlt, lget_str, w64]
      repeat (refine And.intro (by omega) ?_)
      exact ⟨i + 1, by omega, by omega, Le.syn (by simp (disch := omega) [leS, hC, w64])⟩
    · obtain rfl : i = l.length := by omega
      simp
theorem sameRow_ok (t : RowT) (h1 : t.cols.length ≤ 1048576) (h2 : t.nums.length ≤ 1048576) : PureF Tryz.prog 104 [rowT t, rowT t] (bov true) := by
  refine pure_enter Tryz.func104 rfl (by simp) (fun C hC => ?_)
  simp
  refine callS (sameInts2_ok t.cols h1) (by simp) ?_
  simp
  refine callS (sameTexts2_ok t.nums h2) (by simp) ?_
  simp
end Go.Proofs
namespace Go.Li
open Go Go.Sv Go.Pl Go.Proofs Go.Tb Go.Ut
@[simp] theorem rowQ_g7 (r : Row) : lget (rowQ r).cells 7 = .val (.bool r.high.has) := rfl
@[simp] theorem rowQ_t8 (r : Row) : SV.agg (List.take 4 (List.drop 8 (rowQ r).cells)) = rsv r.high.at' := rfl
end Go.Li
namespace Go.Proofs
open Go.Sv Go Go.Tb Go.Pl Go.Ut Go.Li
end Go.Proofs

