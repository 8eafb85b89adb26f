/- Rows in texts, and back; small functions of the laws about cuts. What the law CutsCombine returns. A text of the prover's own. -/
import Derived.Test.YtilpfpephcngbaaGreatDoorDKx
import Derived.Test.YtilpfpephcngbaaGreatDoorDKu
namespace Go.Li
open Go Go.Sv Go.Pl Go.Proofs Go.Tb Go.Ut
def boT (b : Bo) : ByteArray := if b.has = true then qtxt b.at' else e0
def rowTx (r : Row) : RowT := ⟨r.name, boT r.low, boT r.high, r.terms.map (·.col), r.terms.map fun t => qtxt t.num⟩
structure RowW (r : Row) : Prop where
  n : r.terms.length ≤ 120
  t : ∀ k, k < r.terms.length → qw 10000000 (gt r.terms k).num
  lo : qw 10000000 r.low.at'
  hi : qw 10000000 r.high.at'
theorem qtxt_szB {q : Rat} (h : qw 10000000 q) : (qtxt q).size ≤ 300000000 := by
  have h1 := txt_sz h.1
  have h2 := txt_sz h.2
  unfold qtxt
  split
  · omega
  · rw [size_app, size_app]
    have : (⟨#[47]⟩ : ByteArray).size = 1 := rfl
    omega
theorem qtxt_pos (q : Rat) : (qtxt q).size ≠ 0 := fun h => by
  have e := qrd_txt q (m := 5) (by omega)
  have hq : qrd 5 (qtxt q) = (0, 1, sgnAt (qtxt q)) := by
    have h1 := sgnAt_le (qtxt q)
    have h2 : dend (qtxt q) (sgnAt (qtxt q)) ≤ (qtxt q).size := dend_le h1
    have h3 := dend_ge (qtxt q) (sgnAt (qtxt q))
    unfold qrd
    rw [if_neg (by omega), if_pos (by omega)]
  rw [hq] at e
  simp at e
theorem qtxt_ne (q : Rat) : qtxt q ≠ ByteArray.empty := fun h => qtxt_pos q (by rw [h]; rfl)
theorem boT_yes {b : Bo} (h : b.has = true) : boT b = qtxt b.at' := by unfold boT; rw [if_pos h]
theorem boT_no {b : Bo} (h : b.has = false) : boT b = e0 := by unfold boT; rw [if_neg (by simp [h])]
def probZ (p : Prob) : SV := .agg ([bov p.max] ++ (qnil).cells ++ [.ro (p.cols.map colP), .ro (p.rows.map rowP)])
@[simp] theorem probZ_csz (p : Prob) : (probZ p).csz = 7 := rfl
@[simp] theorem probZ_isTup (p : Prob) : (probZ p).isTup = false := rfl
@[simp] theorem probZ_isAgg (p : Prob) : (probZ p).isAgg = true := rfl
@[simp] theorem probZ_one (p : Prob) : (probZ p).one = false := rfl
@[simp] theorem probZ_pure (p : Prob) : (probZ p).pure = true := rfl
@[simp] theorem probZ_lt (n : Nat) (p : Prob) : (probZ p).lt n = true := rfl
@[simp] theorem probZ_uses (n : Nat) (p : Prob) : (probZ p).uses n = false := rfl
@[simp] theorem probZ_ks (p : Prob) : (probZ p).ks = [] := rfl
@[simp] theorem probZ_f0 (p : Prob) : lget (probZ p).cells 0 = bov p.max := rfl
@[simp] theorem probZ_f1 (p : Prob) : SV.agg (((probZ p).cells.drop 1).take 4) = qnil := rfl
@[simp] theorem probZ_f5 (p : Prob) : lget (probZ p).cells 5 = .ro (p.cols.map colP) := rfl
@[simp] theorem probZ_f6 (p : Prob) : lget (probZ p).cells 6 = .ro (p.rows.map rowP) := rfl
@[simp] theorem boPc_fgt (b : Bo) (k : Nat) : (boP b).cells.map (fun y => if SV.uses k y = true then SV.any else y) = (boP b).cells := rfl
@[simp] theorem qc_lset (q : Rat) (r : List SV) (n : Nat) (x : SV) : lset ((qsv q).cells ++ r) (n + 4) x = (qsv q).cells ++ lset r n x := rfl
@[simp] theorem qc_lget (q : Rat) (r : List SV) (n : Nat) : lget ((qsv q).cells ++ r) (n + 4) = lget r n := rfl
@[simp] theorem qc_fgt (q : Rat) (k : Nat) : (qsv q).cells.map (fun y => if SV.uses k y = true then SV.any else y) = (qsv q).cells := rfl
def colN0 : Col := ⟨.empty, false, ⟨false, 0⟩, ⟨false, 0⟩, 0⟩
theorem qw_sumG {x : List Rat} (hx : Wd 2200 x) {ts : List Term} (ht : ∀ k, k < ts.length → qw 10000000 (gt ts k).num ∧ 0 ≤ (gt ts k).col ∧ (gt ts k).col < x.length) : ∀ k, k ≤ ts.length → qw (1 + 10002201 * k) (sumK x ts k)
  | 0, _ => qw_mono (qw_small (n := 0) (by omega) (by omega)) (by omega)
  | k + 1, hk => by
    obtain ⟨h1, h2, h3⟩ := ht k (by omega)
    exact qw_mono (qw_add (qw_sumG hx ht k (by omega)) (qw_mul h1 (hx _ (by omega)) (by omega))) (by omega)
def colN1 : SV := .agg (.val (.string .empty) :: .val (.bool false) :: .val (.bool false) :: .val (.bool false) :: .val (.slice none 0 0) :: .val (.bool false) :: .val (.slice none 0 0) :: .val (.bool false) :: .val (.bool false) :: .val (.slice none 0 0) :: .val (.bool false) :: .val (.slice none 0 0) :: (qsv 0).cells)
@[simp] theorem colN1_csz : colN1.csz = 16 := rfl
@[simp] theorem colN1_isTup : colN1.isTup = false := rfl
@[simp] theorem colN1_isAgg : colN1.isAgg = true := rfl
@[simp] theorem colN1_one : colN1.one = false := rfl
@[simp] theorem colN1_pure : colN1.pure = true := rfl
@[simp] theorem colN1_lt (n : Nat) : colN1.lt n = true := rfl
@[simp] theorem colN1_uses (k : Nat) : colN1.uses k = false := rfl
@[simp] theorem colN1_ks : colN1.ks = [] := rfl
theorem colN1_mk : SV.agg (SV.val (.string .empty) :: SV.val (.bool false) :: SV.val (.bool false) :: SV.val (.bool false) :: SV.val (.slice none 0 0) :: SV.val (.bool false) :: SV.val (.slice none 0 0) :: SV.val (.bool false) :: SV.val (.bool false) :: SV.val (.slice none 0 0) :: SV.val (.bool false) :: SV.val (.slice none 0 0) :: (qsv 0).cells) = colN1 := rfl
theorem usesL_rep {k n : Nat} {x : SV} (h : x.uses k = false) : SV.usesL k (List.replicate n x) = false := by
  induction n with
  | zero => rfl
  | succ n ih => rw [List.replicate_succ]; simp [h, ih]
theorem pureL_rep {n : Nat} {x : SV} (h : x.pure = true) : SV.pureL (List.replicate n x) = true := by
  induction n with
  | zero => rfl
  | succ n ih => rw [List.replicate_succ]; simp [h, ih]
theorem sbL_rep {k n : Nat} {es : List SV} {x : SV} : sbL k es (List.replicate n x) = List.replicate n (sbV k es x) := by
  induction n with
  | zero => rfl
  | succ n ih => rw [List.replicate_succ, List.replicate_succ]; simp [ih]
theorem sbV_colP {k : Nat} {es : List SV} {c : Col} : sbV k es (colP c) = colP c := rfl
theorem colN1_nl : nlV colN1 = colP colN0 := by
  have e : colP colN0 = .agg ([.val (.string .empty), .val (.bool false)] ++ (boP ⟨false, 0⟩).cells ++ (boP ⟨false, 0⟩).cells ++ (qsv 0).cells) := rfl
  rw [e, boP_no]; rfl
end Go.Li
namespace Go.Proofs
open Go.Sv Go Go.Tb Go.Pl Go.Ut Go.Li
theorem qBoText_ok (b : Bo) (h : qok b.at') : PureF Tryz.prog 164 [boQ b] (strv (boT b)) := by
  refine pure_enter Tryz.func164 rfl (by simp) (fun C hC => ?_)
  simp
  refine ⟨fun h1 => by rw [boT_no h1]; rfl, fun h1 => ?_⟩
  refine callS (qText_ok b.at' h) (by simp) ?_
  simp [boT_yes h1]
theorem rBoText_ok (b : Bo) (h : qok b.at') : PureF Tryz.prog 169 [boP b] (strv (boT b)) := by
  refine pure_enter Tryz.func169 rfl (by simp) (fun C hC => ?_)
  simp
  refine ⟨fun h1 => by rw [boT_no h1]; rfl, fun h1 => ?_⟩
  rw [qb_has h1]
  refine callS (pText_ok b.at' h) (by simp) ?_
  simp [boT_yes h1]
set_option maxRecDepth 10000 in
theorem qRowSpec_ok (r : Row) (h : RowW r) : PureF Tryz.prog 105 [rowQ r] (rowT (rowTx r)) := by
  have hn := h.n
  refine pure_enterW Tryz.func105 rfl (by simp) (fun C hC => ?_)
  simp
  refine CodeJ.drawZ (.d 9 <| .qs [0, 1, 2, 3, 5, 6] <| .p 4 <| .p 7 <| .qs [8] <| .b (.l 10 [2] <| .nil)) (by kernel_rfl) (by kernel_rfl) (by simp) ?_
  simp
  refine callV (qBoText_ok r.low (qok_of h.lo (by omega))) (by simp) ?_
  simp
  refine callV (qBoText_ok r.high (qok_of h.hi (by omega))) (by simp) ?_
  simp
  refine CodeJ.le (Le.nilCell 2 3 1 rfl rfl rfl rfl (by simp)) ?_
  simp [tset]
  refine CodeJ.le (Le.nilCell 2 4 1 rfl rfl rfl rfl (by simp)) ?_
  refine CodeJ.loopL (ι := Nat) (fun k => ⟨39, [(2, .ptr 1 0 0), (3, .ptr 2 0 0), (16, .ro (r.terms.map termQ)), (17, iv r.terms.length), (18, iv k)], [some ⟨12, [rowQ r], false⟩, some ⟨5, [.agg [.val (.string .empty), .val (.string .empty), .val (.string .empty), .val (.slice none 0 0), .val (.slice none 0 0)]], false⟩,
      some ⟨5, [.agg [strv r.name, strv (boT r.low), strv (boT r.high), .view 3 0 k, .view 4 0 k]], false⟩, some ⟨1, ((rowTx r).cols.take k).map iv, false⟩, some ⟨1, ((rowTx r).nums.take k).map strv, false⟩]⟩)
    (fun k => k ≤ r.terms.length) (fun k => r.terms.length - k) 0 (by simp) ?_ ?_
  · simp [leS, hC, tset]
  · rintro k hk
    have hl1 : (rowTx r).cols.length = r.terms.length := by simp [rowTx]
    have hl2 : (rowTx r).nums.length = r.terms.length := by simp [rowTx]
    by_cases hlt : k < r.terms.length
    · have g1 : gt (rowTx r).cols k = (gt r.terms k).col := by unfold rowTx; rw [gt_map _ hlt]
      have g2 : gt (rowTx r).nums k = qtxt (gt r.terms k).num := by unfold rowTx; rw [gt_map _ hlt]
      simp (disch := omega) [hlt, lget_terms, w64]
      repeat (refine And.intro (by omega) ?_)
      refine ⟨⟨by simp [hC], by omega⟩, ?_⟩
      refine CodeJ.draw (.qs [0, 1, 2, 3] <| .l 4 [] <| .l 5 [] <| .l 6 [1000000] <| .qs [7] <| .l 8 [2, 1000000] <| .nil) (by kernel_rfl) (by kernel_rfl) (by simp) ?_
      simp
      refine callS (qText_ok _ (qok_of (h.t k hlt) (by omega))) (by simp) ?_
      simp (disch := omega) [w64]
      repeat (refine And.intro (by omega) ?_)
      exact ⟨⟨by simp [hC], by omega⟩, k + 1, by omega, by omega, Le.syn (by simp (disch := omega) [leS, hC, w64, take1 iv (show k < (rowTx r).cols.length by omega), take1 strv (show k < (rowTx r).nums.length by omega), g1, g2])⟩
    · obtain rfl : k = r.terms.length := by omega
      simp
      refine ⟨_, (Le.frz 4 rfl (by simp)).trans (Le.frz 3 rfl (by simp)), ?_⟩
      have t1 : ((rowTx r).cols.map iv).take r.terms.length = (rowTx r).cols.map iv := List.take_of_length_le (by simp [hl1])
      have t2 : ((rowTx r).nums.map strv).take r.terms.length = (rowTx r).nums.map strv := List.take_of_length_le (by simp [hl2])
      simp [frzS, tset, t1, t2, hl1, hl2]
      exact Sub_self _ _ rfl
set_option maxRecDepth 10000 in
theorem rRowSpec_ok (r : Row) (h : RowW r) : PureF Tryz.prog 106 [rowP r] (rowT (rowTx r)) := by
  have hn := h.n
  refine pure_enterW Tryz.func106 rfl (by simp) (fun C hC => ?_)
  simp
  refine callS (rBoText_ok r.low (qok_of h.lo (by omega))) (by simp) ?_
  simp
  refine callS (rBoText_ok r.high (qok_of h.hi (by omega))) (by simp) ?_
  simp
  refine ⟨⟨by cases r.terms <;> simp [okE], by omega⟩, ?_⟩
  have e : (r.terms.map fun t => qsv t.num) = (r.terms.map (·.num)).map qsv := by rw [List.map_map]; rfl
  have w : OKl (r.terms.map (·.num)) := ⟨by simp; omega, fun q hq => by
    obtain ⟨t, ht, rfl⟩ := List.mem_map.1 hq
    obtain ⟨k, hk, rfl⟩ := List.getElem_of_mem ht
    rw [gt_get hk]
    exact qok_of (h.t k hk) (by omega)⟩
  rw [e]
  refine callS (rTold_ok _ w) (by simp) ?_
  simp
  refine ⟨_, Le.frz 3 rfl (by simp), ?_⟩
  simp [frzS, tset]
  have e1 : (r.terms.map fun t => SV.val (.int .i64 t.col)) = (rowTx r).cols.map iv := by unfold rowTx; rw [List.map_map]; rfl
  have e2 : txts (r.terms.map (·.num)) = (rowTx r).nums := by unfold rowTx txts; rw [List.map_map]; rfl
  rw [e1, e2]
  exact Sub_self _ _ rfl
theorem sameInts2_ok (l : List Int) (h : l.length ≤ 1048576) : PureF Tryz.prog 167 [.ro (l.map iv), .ro (l.map iv)] (bov true) := by
  refine pure_enter Tryz.func167 rfl (by simp) (fun C hC => ?_)
  simp
  refine CodeJ.loopL (ι := Nat) (fun i => ⟨26, [(0, .ro (l.map iv)), (1, .ro (l.map iv)), (5, iv i)], []⟩)
    (fun i => i ≤ l.length) (fun i => l.length - i) 0 (by simp) ?_ ?_
  · simp [leS, hC]
  · rintro i hi
    by_cases hlt : i < l.length
    · simp (disch := omega) [hlt, lget_iv]
      repeat (refine And.intro (by omega) ?_)
      refine CodeJ.draw (.qs [0, 1, 2, 3, 4, 5, 6, 7, 8] <| .nil) (by kernel_rfl) (by kernel_rfl) (by simp) ?_
      simp (disch := omega) [hlt, lget_iv, w64]
      repeat (refine And.intro (by omega) ?_)
      exact ⟨i + 1, by omega, by omega, Le.syn (by simp (disch := omega) [leS, hC, w64])⟩
    · obtain rfl : i = l.length := by omega
      simp
theorem sameTexts2_ok (l : List ByteArray) (h : l.length ≤ 1048576) : PureF Tryz.prog 168 [.ro (l.map strv), .ro (l.map strv)] (bov true) := by
  refine pure_enter Tryz.func168 rfl (by simp) (fun C hC => ?_)
  simp
  refine CodeJ.loopL (ι := Nat) (fun i => ⟨26, [(0, .ro (l.map strv)), (1, .ro (l.map strv)), (5, iv i)], []⟩)
    (fun i => i ≤ l.length) (fun i => l.length - i) 0 (by simp) ?_ ?_
  · simp [leS, hC]
  · rintro i hi
    by_cases hlt : i < l.length
    · simp (disch := omega) [hlt, lget_str]
      repeat (refine And.intro (by omega) ?_)
      refine CodeJ.draw (.qs [0, 1, 2, 3, 4, 5, 6, 7, 8] <| .nil) (by kernel_rfl) (by kernel_rfl) (by simp) ?_
      simp (disch := omega) [hlt, lget_str, w64]
      repeat (refine And.intro (by omega) ?_)
      exact ⟨i + 1, by omega, by omega, Le.syn (by simp (disch := omega) [leS, hC, w64])⟩
    · obtain rfl : i = l.length := by omega
      simp
theorem sameRow_ok (t : RowT) (h1 : t.cols.length ≤ 1048576) (h2 : t.nums.length ≤ 1048576) : PureF Tryz.prog 104 [rowT t, rowT t] (bov true) := by
  refine pure_enter Tryz.func104 rfl (by simp) (fun C hC => ?_)
  simp
  refine callS (sameInts2_ok t.cols h1) (by simp) ?_
  simp
  refine callS (sameTexts2_ok t.nums h2) (by simp) ?_
  simp
set_option maxRecDepth 10000 in
theorem rowed0_ok (r : Row) (h : RowW r) : PureF Tryz.prog 41 [rowQ r, .val .nilIface, rowP r, iv 0] (bov true) := by
  have hn := h.n
  refine pure_enter Tryz.func41 rfl (by simp) (fun C hC => ?_)
  simp
  refine CodeJ.draw (.qs [0, 1, 2, 3, 5] <| .l 4 [] <| .l 6 [] <| .l 7 [] <| .qs [8, 9] <| .nil) (by kernel_rfl) (by kernel_rfl) (by simp) ?_
  simp
  refine callS (qRowSpec_ok r h) (by simp) ?_
  simp
  refine callS (rRowSpec_ok r h) (by simp) ?_
  simp
  refine callS (sameRow_ok (rowTx r) (by simp [rowTx]; omega) (by simp [rowTx]; omega)) (by simp) ?_
  simp
theorem rowedE_ok {c : Nat} (hc : 0 < c) (hc' : c ≤ 10) : PureE Tryz.prog 41 [rowZ0, erV c, rowY0, iv c] (fun x => x = .val (.bool true)) := by
  refine pureE_enter Tryz.func41 rfl (by simp) (fun C hC hX hE => ?_)
  refine CodeJ.go ?_
  simp [rowZ0]
  refine ⟨fun _ => ?_, fun h => by omega⟩
  refine callE (coded2_ok hc hc' c) hE hX (by simp) (fun x hx => ?_)
  subst hx
  simp
theorem rSaidB_ok (q : Rat) (h : qw 10000000 q) : PureF Tryz.prog 116 [.val (.string (qtxt q))] (.tup [qsv q, fsv 0 (-1)]) := by
  have hz := qtxt_szB h
  have g := pqread_ok (qtxt q) ((qtxt q).size + 1) (by omega) (by omega) (by omega)
  rw [qrd_txt q (by omega)] at g
  rw [show outP (q, 0, 0) = .tup [qsv q, fsv 0 (-1)] by simp [outP, fsv]] at g
  refine pure_enter Tryz.func116 rfl (by simp) (fun C hC => ?_)
  simp (disch := omega) [w64]
  repeat (refine And.intro (by omega) ?_)
  refine callS (g) (by simp) ?_
  simp [fsv]
theorem rNum1_ok (q : Rat) (h : qw 10000000 q) : PureF Tryz.prog 151 [.val (.string (qtxt q)), .val (.bool true)] (.tup [qsv q, fsv 0 (-1)]) := by
  refine pure_enter Tryz.func151 rfl (by simp) (fun C hC => ?_)
  simp
  refine callS (rSaidB_ok q h) (by simp) ?_
  simp [fsv]
theorem rBnd1_ok (b : Bo) (h : qw 10000000 b.at') (h0 : b.has = false → b.at' = 0) : PureF Tryz.prog 152 [.val (.string (boT b)), .val (.bool true)] (.tup [boP b, .val (.bool true)]) := by
  refine pure_enter Tryz.func152 rfl (by simp) (fun C hC => ?_)
  simp
  by_cases hb : b.has = true
  · rw [boT_yes hb]
    have ne : ¬ qtxt b.at' = ⟨#[]⟩ := fun e => qtxt_ne b.at' (e.trans rfl)
    simp [ne]
    refine callS (rNum1_ok b.at' h) (by simp) ?_
    simp [fsv]
    refine CodeJ.draw (.qs [0, 1, 2] <| .q 3 [0] <| .qs [4] <| .l 5 [0] <| .qs [6] <| .nil) (by kernel_rfl) (by kernel_rfl) (by simp) ?_
    simp
    have e : boP b = boP ⟨true, b.at'⟩ := by cases b; simp_all
    rw [e, boP_mk]
    exact Sub_self _ _ rfl
  · have hb' : b.has = false := by simpa using hb
    have := h0 hb'
    rw [boT_no hb']
    simp [e0]
    have e : boP b = boP ⟨false, 0⟩ := by cases b; simp_all
    rw [e, boP_no]
    simp
set_option maxRecDepth 10000 in
theorem rSumG_ok (r : Row) (h : RowW r) (x : List Rat) (hx : Wd 2200 x) (ht : ∀ k, k < r.terms.length → 0 ≤ (gt r.terms k).col ∧ (gt r.terms k).col < x.length) : PureF Tryz.prog 35 [rowP r, .ro (x.map qsv)] (qsv (sumK x r.terms r.terms.length)) := by
  have hn := h.n
  refine pure_enter Tryz.func35 rfl (by simp) (fun C hC => ?_)
  simp
  refine callS (zeroP) (by simp) ?_
  simp
  refine CodeJ.loopL (ι := Nat) (fun k => ⟨34, [(1, .ro (x.map qsv)), (2, .ptr 0 0 0), (4, .ptr 1 0 0), (5, .ptr 2 0 0), (6, iv k)], [some ⟨13, [rowP r], false⟩, some ⟨4, [.agg [.val (.bool false), .val (.slice none 0 0), .val (.bool false), .val (.slice none 0 0)]], false⟩, some ⟨4, [qsv (sumK x r.terms k)], false⟩]⟩)
    (fun k => k ≤ r.terms.length) (fun k => r.terms.length - k) 0 (by simp) ?_ ?_
  · simp [leS, hC, sumK]
  · rintro k hk
    by_cases hlt : k < r.terms.length
    · have h1 := h.t k hlt
      obtain ⟨h2, h3⟩ := ht k hlt
      have w1 := qw_sumG hx (fun i hi => ⟨h.t i hi, ht i hi⟩) k (by omega)
      have w2 := hx (gt r.terms k).col.toNat (by omega)
      have l3 : lget (x.map qsv) (gt r.terms k).col.toNat = qsv (gt x (gt r.terms k).col.toNat) := lget_q (by omega)
      simp (disch := omega) [hlt]
      repeat (refine And.intro (by omega) ?_)
      refine CodeJ.drawZ (.d 14 <| .qs [0, 1, 2, 3, 4, 5, 6, 7, 8, 9, 10, 11, 12] <| .p 13 <| .b (.l 15 [3] <| .nil)) (by kernel_rfl) (by kernel_rfl) (by simp) ?_
      simp (disch := omega) [hlt, lget_cols, lget_nums, l3]
      repeat (refine And.intro (by omega) ?_)
      refine callV (pMul_ok _ _ (qok_of h1 (by omega)) (qok_of w2 (by omega))) (by simp) ?_
      simp
      refine callS (pAdd_ok _ _ (qok_of w1 (by omega)) (qok_of (qw_mul h1 w2 (by omega)) (by omega))) (by simp) ?_
      simp (disch := omega) [w64]
      repeat (refine And.intro (by omega) ?_)
      exact ⟨k + 1, by omega, by omega, Le.syn (by simp (disch := omega) [leS, hC, w64, sumK])⟩
    · obtain rfl : k = r.terms.length := by omega
      simp
set_option maxRecDepth 10000 in
theorem rHoldsZ_ok (r : Row) (h : RowW r) (n : Nat) (hn : n ≤ 1048576) (x : List Rat) (hx : Wd 2200 x) (hl : x.length = n) (ht : ∀ k, k < r.terms.length → 0 ≤ (gt r.terms k).col ∧ (gt r.terms k).col < x.length) (hk : inB (sumK x r.terms r.terms.length) r.low r.high = true) :
    PureF Tryz.prog 33 [probZ ⟨false, 0, List.replicate n colN0, [r]⟩, .ro (x.map qsv), bov false] (bov true) := by
  refine pure_enter Tryz.func33 rfl (by simp) (fun C hC => ?_)
  simp [hl]
  refine CodeJ.loopL (ι := Nat) (fun j => ⟨89, [(1, .ro (x.map qsv)), (2, bov false), (3, .ptr 0 0 0), (7, iv j)], [some ⟨7, [probZ ⟨false, 0, List.replicate n colN0, [r]⟩], false⟩]⟩)
    (fun j => j ≤ n) (fun j => n - j) 0 (by simp) ?_ ?_
  · simp [leS, hC]
  · rintro j hj
    by_cases hlt : j < n
    · have w1 := hx j (by omega)
      have q0 : qok 0 := qok_of (qw_small (n := 0) (by omega) (by omega)) (by omega)
      have lc : lget ((List.replicate n colN0).map colP) j = colP colN0 := by rw [lget_colP (by simpa using hlt)]; congr 1; rw [← gt_get (by simpa using hlt)]; simp
      simp only [List.map_replicate] at lc
      simp (disch := omega) [hlt, lc]
      repeat (refine And.intro (by omega) ?_)
      refine CodeJ.draw (.qs [0, 1, 2, 3, 4, 5, 6, 7] <| .l 8 [] <| .qs [9] <| .nil) (by kernel_rfl) (by kernel_rfl) (by simp) ?_
      simp (disch := omega) [lget_q, hlt]
      repeat (refine And.intro (by omega) ?_)
      refine callS (rInside_ok (gt x j) ⟨false, 0⟩ ⟨false, 0⟩ (qok_of w1 (by omega)) q0 q0) (by simp) ?_
      simp (disch := omega) [lget_q]
      repeat (refine And.intro (by omega) ?_)
      refine callS (pIsWhole_ok (gt x j)) (by simp) ?_
      simp (disch := omega) [w64]
      repeat (refine And.intro (by omega) ?_)
      refine ⟨fun _ => ⟨j + 1, by omega, by omega, Le.syn (by simp (disch := omega) [leS, hC, w64])⟩, by simp [inB]⟩
    · obtain rfl : j = n := by omega
      simp
      refine CodeJ.loopL (ι := Nat) (fun i => ⟨89, [(1, .ro (x.map qsv)), (3, .ptr 0 0 0), (11, iv i)], [some ⟨7, [probZ ⟨false, 0, List.replicate j colN0, [r]⟩], false⟩]⟩)
        (fun i => i ≤ 1) (fun i => 1 - i) 0 (by simp) ?_ ?_
      · simp [leS, hC]
      · rintro i hi
        by_cases hlt : i < 1
        · obtain rfl : i = 0 := by omega
          have ws := qw_sumG hx (fun i hi => ⟨h.t i hi, ht i hi⟩) r.terms.length (by omega)
          have nt := h.n
          simp
          repeat (refine And.intro (by omega) ?_)
          refine callS (rSumG_ok r h x hx ht) (by simp) ?_
          simp
          refine CodeJ.draw (.qs [0, 1, 2, 3, 4, 5, 6, 7, 8, 9, 10, 11, 12] <| .l 13 [] <| .qs [14] <| .nil) (by kernel_rfl) (by kernel_rfl) (by simp) ?_
          simp
          repeat (refine And.intro (by omega) ?_)
          refine callS (rInside_ok _ r.low r.high (qok_of ws (by omega)) (qok_of h.lo (by omega)) (qok_of h.hi (by omega))) (by simp) ?_
          simp (disch := omega) [w64, hk]
          repeat (refine And.intro (by omega) ?_)
          exact ⟨1, by omega, by omega, Le.syn (by simp (disch := omega) [leS, hC, w64])⟩
        · obtain rfl : i = 1 := by omega
          simp
set_option maxRecDepth 10000 in
theorem rSaidRow_ok (r : Row) (h : RowW r) (hlo : r.low.has = false → r.low.at' = 0) (hhi : r.high.has = false → r.high.at' = 0) : PureF Tryz.prog 77 [specT ⟨false, s0, [], [rowTx r]⟩, .val (.bool true)] (.tup [probP ⟨false, 0, [], [r]⟩, .val (.bool true)]) := by
  have q0 : qw 10000000 0 := qw_mono (qw_small (n := 0) (by omega) (by omega)) (by omega)
  have g0 := rNum1_ok 0 q0
  rw [txt_0, show (⟨#[48]⟩ : ByteArray) = s0 from rfl] at g0
  have hn := h.n
  have hl1 : (rowTx r).cols.length = r.terms.length := by simp [rowTx]
  have hl2 : (rowTx r).nums.length = r.terms.length := by simp [rowTx]
  have n1 : (rowTx r).low = boT r.low := rfl
  have n2 : (rowTx r).high = boT r.high := rfl
  have n3 : (rowTx r).name = r.name := rfl
  refine pure_enterW Tryz.func77 rfl (by simp) (fun C hC => ?_)
  simp
  refine callS (g0) (by simp) ?_
  simp [fsv]
  refine CodeJ.loop (ι := Nat) (fun i => ⟨193, [(1, bov true), (2, .ptr 0 0 0), (4, .ptr 1 0 0), (6, .ptr 2 0 0), (9, bov true), (10, iv i)],
      [some ⟨4, [specT ⟨false, s0, [], [rowTx r]⟩], false⟩, some ⟨7, [.agg [.val (.bool false), .val (.bool false), .val (.slice none 0 0), .val (.bool false), .val (.slice none 0 0), .val (.slice none 0 0), .val (.slice none 0 0)]], false⟩, some ⟨7, [.agg (bov false :: ((qsv 0).cells ++ [.val (.slice none 0 0), .val (.slice none 0 0)]))], false⟩, some ⟨4, [qsv 0], false⟩, some ⟨2, [.agg [.val (.int .i64 0), .val (.int .i64 (-1))]], false⟩]⟩)
    (fun i => i ≤ 0) (fun _ => 0) 0 (by omega) ?_ ?_
  · simp [leS, hC, fsv]
  · rintro i hi
    obtain rfl : i = 0 := by omega
    simp
    refine CodeJ.le (Le.nilCell 2 6 13 rfl rfl rfl rfl (by simp)) ?_
    refine CodeJ.loopL (ι := Nat) (fun i => ⟨193, [(1, bov true), (2, .ptr 0 0 0), (4, .ptr 1 0 0), (6, .ptr 2 0 0), (9, bov true), (18, iv i)],
        [some ⟨4, [specT ⟨false, s0, [], [rowTx r]⟩], false⟩, some ⟨7, [.agg [.val (.bool false), .val (.bool false), .val (.slice none 0 0), .val (.bool false), .val (.slice none 0 0), .val (.slice none 0 0), .val (.slice none 0 0)]], false⟩, some ⟨7, [.agg (bov false :: ((qsv 0).cells ++ [.val (.slice none 0 0), .view 5 0 i]))], false⟩, some ⟨4, [qsv 0], false⟩, some ⟨2, [.agg [.val (.int .i64 0), .val (.int .i64 (-1))]], false⟩, some ⟨13, ([r].take i).map rowP, false⟩]⟩)
      (fun i => i ≤ 1) (fun i => 1 - i) 0 (by simp) ?_ ?_
    · simp [leS, hC, tset]
      done
    · rintro i hi
      by_cases hlt : i < 1
      · obtain rfl : i = 0 := by omega
        simp (disch := omega) [n1, n2, n3]
        repeat (refine And.intro (by omega) ?_)
        refine callS (rBnd1_ok r.low h.lo hlo) (by simp) ?_
        simp [n1, n2, n3]
        refine callS (rBnd1_ok r.high h.hi hhi) (by simp) ?_
        simp
        refine CodeJ.le (Le.nilCell 9 1 1 rfl rfl rfl rfl (by simp)) ?_
        simp [tset]
        refine CodeJ.le (Le.nilCell 9 2 4 rfl rfl rfl rfl (by simp)) ?_
        refine CodeJ.loop (ι := Nat) (fun k => ⟨193, [(1, bov true), (2, .ptr 0 0 0), (4, .ptr 1 0 0), (6, .ptr 2 0 0), (9, bov true), (18, iv 0), (19, .ptr 6 0 0), (24, .ptr 9 0 0), (25, iv k)],
            [some ⟨4, [specT ⟨false, s0, [], [rowTx r]⟩], false⟩, some ⟨7, [.agg [.val (.bool false), .val (.bool false), .val (.slice none 0 0), .val (.bool false), .val (.slice none 0 0), .val (.slice none 0 0), .val (.slice none 0 0)]], false⟩, some ⟨7, [.agg (bov false :: ((qsv 0).cells ++ [.val (.slice none 0 0), .view 5 0 0]))], false⟩, some ⟨4, [qsv 0], false⟩, some ⟨2, [.agg [.val (.int .i64 0), .val (.int .i64 (-1))]], false⟩, some ⟨13, [], false⟩,
              some ⟨5, [rowT (rowTx r)], false⟩, some ⟨5, [boP r.low], false⟩, some ⟨5, [boP r.high], false⟩,
              some ⟨13, [.agg (strv r.name :: .view 10 0 k :: .view 11 0 k :: ((boP r.low).cells ++ (boP r.high).cells))], false⟩, some ⟨1, (r.terms.take k).map (fun t => iv t.col), false⟩, some ⟨4, (r.terms.take k).map (fun t => qsv t.num), false⟩]⟩)
          (fun k => k ≤ r.terms.length) (fun k => r.terms.length - k) 0 (by omega) ?_ ?_
        · simp [leS, hC, tset, n3]
        · rintro k hk
          by_cases hkl : k < r.terms.length
          · have g1 : gt (rowTx r).cols k = (gt r.terms k).col := by unfold rowTx; rw [gt_map _ hkl]
            have g2 : gt (rowTx r).nums k = qtxt (gt r.terms k).num := by unfold rowTx; rw [gt_map _ hkl]
            simp (disch := omega) [hl1, hl2, hkl, lget_iv, lget_str, g1, g2, w64]
            repeat (refine And.intro (by omega) ?_)
            refine callS (rNum1_ok _ (h.t k hkl)) (by simp) ?_
            simp [fsv]
            refine CodeJ.draw (.qs [0, 1, 2, 3, 4, 5, 6] <| .l 7 [] <| .l 8 [1000000] <| .qs [9] <| .l 10 [9, 1000000] <| .nil) (by kernel_rfl) (by kernel_rfl) (by simp) ?_
            simp (disch := omega) [hl1, hl2, hkl, lget_iv, lget_str, g1, g2, w64]
            repeat (refine And.intro (by omega) ?_)
            exact ⟨⟨by simp [hC], by omega⟩, ⟨by simp [hC], by omega⟩, k + 1, by omega, by omega, by simp (disch := omega) [leS, hC, take1 _ hkl, w64, fsv]⟩
          · obtain rfl : k = r.terms.length := by omega
            simp (disch := omega) [hl1, hl2, w64]
            repeat (refine And.intro (by omega) ?_)
            refine ⟨by simp [hC], 1, by omega, by omega, ?_⟩
            refine (Le.frz 11 rfl (by simp)).trans ?_
            simp [frzS, tset]
            refine (Le.frz 10 rfl (by simp)).trans ?_
            simp [frzS, tset]
            have er : SV.agg (SV.val (.string r.name) :: .ro (r.terms.map fun t => SV.val (.int .i64 t.col)) :: .ro (r.terms.map fun t => qsv t.num) :: ((boP r.low).cells ++ (boP r.high).cells)) = rowP r := rfl
            refine Le.syn ?_
            simp (disch := omega) [leS, hC, w64, er]
      · obtain rfl : i = 1 := by omega
        simp
        refine ⟨_, Le.frz 5 rfl (by simp), ?_⟩
        simp [frzS, tset]
        have e1 : ∀ l, (qsv 0).cells ++ l = lget (qsv 0).cells 0 :: lget (qsv 0).cells 1 :: lget (qsv 0).cells 2 :: lget (qsv 0).cells 3 :: l := fun l => rfl
        have e2 : probP ⟨false, 0, [], [r]⟩ = .agg (SV.val (.bool false) :: ((qsv 0).cells ++ [.ro [], .ro [rowP r]])) := rfl
        have e3 : lget (qsv 0).cells 0 = SV.val (.bool false) := rfl
        have e4 : lget (qsv 0).cells 2 = SV.val (.bool false) := rfl
        rw [e2, e1, e1, e3, e4]
        simp
        exact ⟨Sub_self _ _ rfl, Sub_self _ _ rfl⟩
theorem rSaidSpec_ok (r : Row) (h : RowW r) (hlo : r.low.has = false → r.low.at' = 0) (hhi : r.high.has = false → r.high.at' = 0) : PureF Tryz.prog 111 [specT ⟨false, s0, [], [rowTx r]⟩] (.tup [probP ⟨false, 0, [], [r]⟩, .val (.bool true)]) := by
  refine pure_enter Tryz.func111 rfl (by simp) (fun C hC => ?_)
  simp
  refine callS (rSaidRow_ok r h hlo hhi) (by simp) ?_
  simp
set_option maxRecDepth 10000 in
theorem keeps_ok (r : Row) (h : RowW r) (hlo : r.low.has = false → r.low.at' = 0) (hhi : r.high.has = false → r.high.at' = 0) (x : List Rat) (hx : Wd 2200 x) (hl : x.length ≤ 1048576) (ht : ∀ k, k < r.terms.length → 0 ≤ (gt r.terms k).col ∧ (gt r.terms k).col < x.length) (hk : inB (sumK x r.terms r.terms.length) r.low r.high = true) :
    PureF Tryz.prog 43 [rowQ r, .ro (x.map qsv)] (bov true) := by
  refine pure_enter Tryz.func43 rfl (by simp) (fun C hC => ?_)
  simp
  refine CodeJ.le (Le.nilCell 1 5 16 rfl rfl rfl rfl (by simp)) ?_
  refine CodeJ.loopL (ι := Nat) (fun j => ⟨39, [(1, .ro (x.map qsv)), (2, .ptr 0 0 0), (5, .ptr 1 0 0), (6, iv j)], [some ⟨12, [rowQ r], false⟩, some ⟨7, [.agg [.val (.bool false), .val (.bool false), .val (.slice none 0 0), .val (.bool false), .val (.slice none 0 0), .view 2 0 j, .val (.slice none 0 0)]], false⟩,
      some ⟨16, List.replicate j colN1, false⟩]⟩)
    (fun j => j ≤ x.length) (fun j => x.length - j) 0 (by simp) ?_ ?_
  · simp [leS, hC, tset]
  · rintro j hj
    by_cases hlt : j < x.length
    · simp (disch := omega) [hlt]
      repeat (refine And.intro (by omega) ?_)
      refine CodeJ.draw (.qs [0, 1] <| .l 2 [] <| .qs [3] <| .l 4 [] <| .l 5 [1000000] <| .qs [6] <| .l 7 [1, 1000000] <| .nil) (by kernel_rfl) (by kernel_rfl) (by simp) ?_
      simp
      refine callS (zeroP) (by simp) ?_
      have u := usesL_rep (k := 2) (n := j) (x := colN1) rfl
      have v := ltL_rep (k := 3) (n := j) (x := colN1) rfl
      simp (disch := omega) [w64, colN1_mk, u]
      repeat (refine And.intro (by omega) ?_)
      exact ⟨⟨by simp [hC], by omega⟩, j + 1, by omega, by omega, Le.syn (by simp (disch := omega) [leS, hC, w64, List.replicate_succ', u, v])⟩
    · obtain rfl : j = x.length := by omega
      simp
      refine callS (qRowSpec_ok r h) (by simp) ?_
      simp
      refine callNil ?_
      have y1 : nlV (rowQ r) = rowQ r := rfl
      have y2 : nlV (rowT (rowTx r)) = rowT (rowTx r) := rfl
      simp [y1, y2, nlL_rep, colN1_nl]
      refine callFz 3 rfl (by simp) ?_
      simp [tset]
      have sp : SV.agg [SV.val (.bool false), SV.val (.string ⟨#[48]⟩), .ro [], .ro [rowT (rowTx r)]] = specT ⟨false, s0, [], [rowTx r]⟩ := rfl
      rw [sp]
      refine callS (rSaidSpec_ok r h hlo hhi) (by simp) ?_
      simp [sbL_rep, sbV_colP]
      refine callFz 2 rfl (by simp; exact pureL_rep rfl) ?_
      simp [tset]
      have zp : SV.agg [SV.val (.bool false), SV.val (.bool false), .ro [], SV.val (.bool false), .ro [], .ro (List.replicate x.length (colP colN0)), .ro [rowP r]] = probZ ⟨false, 0, List.replicate x.length colN0, [r]⟩ := by
        rw [← List.map_replicate]; rfl
      rw [zp]
      refine callS (rHoldsZ_ok r h x.length hl x hx rfl ht hk) (by simp) ?_
      simp
end Go.Proofs
namespace Go.Li
open Go Go.Sv Go.Pl Go.Proofs Go.Tb Go.Ut
def s12 : ByteArray := ⟨#[49, 47, 50]⟩
def cutS : SpecT := ⟨false, s0, [⟨sx, true, s0, s3, s1⟩, ⟨sy, true, s0, s3, s1⟩], [⟨sone, e0, s5, [0, 1], [s2, s2]⟩]⟩
def P2 : Prob := ⟨false, 0, [⟨sx, true, ⟨true, 0⟩, ⟨true, 3⟩, 1⟩, ⟨sy, true, ⟨true, 0⟩, ⟨true, 3⟩, 1⟩], [⟨sone, [⟨0, 2⟩, ⟨1, 2⟩], ⟨false, 0⟩, ⟨true, 5⟩⟩]⟩
theorem n12 : num s12 = 1 / 2 := by decide +kernel
theorem prob_cut : probOf cutS = P2 := by
  have e : ∀ s : ByteArray, isNo s = false → boOf s = ⟨true, num s⟩ := fun s h => by unfold boOf; rw [h]; rfl
  have e' : boOf e0 = ⟨false, 0⟩ := rfl
  simp [probOf, cutS, P2, colOf, rowOf, zipR, termOf, n0, n1, n2, n3, n5, e s0 (by decide), e s3 (by decide), e s5 (by decide), e']
theorem ok_cut : okS cutS = true := by decide +kernel
theorem valid_cut : validC P2 = 0 := by unfold validC; decide +kernel
theorem comb_open : openP P2 [1 / 2] = false := by decide +kernel
theorem comb_len : (combR P2 [1 / 2]).terms.length = 2 := by decide +kernel
theorem comb_hi : (combR P2 [1 / 2]).high.at' = 2 := by decide +kernel
theorem txt_2 : qtxt 2 = ⟨#[50]⟩ := by decide +kernel
theorem sm_cut : SmS cutS where
  shift := by decide
  nc := by decide
  nr := by decide
  cols := fun i hi => by
    match i, hi with
    | 0, _ => exact ⟨by decide, by decide, by decide, by decide⟩
    | 1, _ => exact ⟨by decide, by decide, by decide, by decide⟩
  rows := fun i hi => by
    match i, hi with
    | 0, _ => exact ⟨by decide, by decide, by decide, by decide, ⟨by decide, fun x hx => by
        have hx' : x = s2 := by simpa [cutS, gt] using hx
        rw [hx']; decide⟩⟩
@[simp] theorem rowQ_g7 (r : Row) : lget (rowQ r).cells 7 = .val (.bool r.high.has) := rfl
@[simp] theorem rowQ_t8 (r : Row) : SV.agg (List.take 4 (List.drop 8 (rowQ r).cells)) = rsv r.high.at' := rfl
theorem fewB_len {s : SpecT} (h : fewB s = true) : (probOf s).cols.length ≤ 7 ∧ (probOf s).rows.length ≤ 7 := by
  unfold fewB at h
  simp only [Bool.and_eq_true, decide_eq_true_eq] at h
  unfold probOf
  simp only [List.length_map]
  exact ⟨h.1.1.1.1, h.1.1.1.2⟩
end Go.Li
namespace Go.Proofs
open Go.Sv Go Go.Tb Go.Pl Go.Ut Go.Li
set_option maxRecDepth 10000 in
theorem cut_ok : PureF Tryz.prog 37 [] (bov true) := by
  have gP := pProblem_ok cutS sm_cut
  rw [prob_cut, ok_cut] at gP
  have sm12 : SmN [s12] := ⟨by decide, fun x hx => by
    have hx' : x = s12 := by simpa using hx
    rw [hx']; decide⟩
  have gN := pNumbers_ok [s12] sm12
  have okn : okN [s12] = true := by decide +kernel
  rw [numsQ, if_pos okn, show nums [s12] = [1 / 2] by simp [nums, n12]] at gN
  have fw2 : Few P2 := ⟨by decide, by decide, fun i hi => by
    match i, hi with
    | 0, _ => decide⟩
  have pw2 : ProbW P2 := by rw [← prob_cut]; exact probW_of _
  have wh : Wd 2200 [1 / 2] := fun i hi => by
    have e : i = 0 := by simpa using hi
    subst e
    rw [show gt [(1 / 2 : Rat)] 0 = num s12 from n12.symm]
    exact qw_qrd _
  have gC := qComb_ok P2 fw2 pw2 valid_cut [1 / 2] wh rfl
  rw [if_neg (by rw [comb_open]; decide)] at gC
  have q2 : qok 2 := qok_of (qw_small (n := 2) (by omega) (by omega)) (by omega)
  have gT := qText_ok 2 q2
  rw [txt_2] at gT
  refine pure_enter Tryz.func37 rfl (by simp) (fun C hC => ?_)
  simp
  refine callFz 2 rfl (by simp) ?_
  simp [tset]
  refine callFz 3 rfl (by simp) ?_
  simp [tset]
  refine callFz 4 rfl (by simp) ?_
  simp [tset]
  refine callFz 1 rfl (by simp) ?_
  simp [tset]
  refine callF gP (by simp [cutS, specT, colT, rowT, s0, s1, s2, s3, s5, sx, sy, sone, e0]; rfl) ?_
  simp
  refine callFz 5 rfl (by simp) ?_
  simp [tset]
  refine callF gN (by simp [s12]) ?_
  simp
  refine callF gC (by simp) ?_
  simp [comb_len]
  rw [comb_hi]
  refine ⟨rfl, fun _ => ?_⟩
  refine callS (gT) (by simp) ?_
  simp
end Go.Proofs

