/- What the law's own functions about a table taken apart return. What optimalaw1.MatrixFactor returns. A text of the prover's own. -/
import Derived.Test.YtnimjdcaajmfcaaGreatDoorPYj
import Derived.Test.YtnimjdcaajmfcaaGreatDoorPYh
import Derived.Test.YtnimjdcaajmfcaaGreatDoorPYe
import Derived.Test.YtnimjdcaajmfcaaGreatDoorPMx
namespace Go.Proofs
open Go.Sv Go Go.Tb Go.Pl Go.Ut Go.Mx Go.Dt
theorem qFactorE_ok (a : List (List Rat)) (h : ¬ (isTab a = true ∧ wide a = a.length)) (na : a.length ≤ 1048576) (ha : ∀ r ∈ a, r.length ≤ 1048576) : PureF Tryz.prog 10 [.ro (a.map rlv)] (.tup [.val (.pointer none), erV 4]) := by
  have g1 := width_ok a na ha
  obtain ⟨w, e1, e2⟩ := width_eq a
  rw [e1] at g1
  refine pure_enter Tryz.func10 rfl (by simp) (fun C hC => ?_)
  simp
  refine callS (g1) (by simp) ?_
  by_cases ht : isTab a = true
  · have hw := e2 ht
    have hne : ¬ wide a = a.length := fun e => h ⟨ht, e⟩
    have hn : ¬ w = (a.length : Int) := by omega
    simp [ht, hn, erV_4]
    refine CodeJ.draw (.qs [0, 1, 2] <| .nil) (by kernel_rfl) (by kernel_rfl) (by simp) ?_
    simp
  · have ht' : isTab a = false := by simpa using ht
    simp [ht', erV_4]
    refine CodeJ.draw (.qs [0, 1, 2] <| .nil) (by kernel_rfl) (by kernel_rfl) (by simp) ?_
    simp
theorem okl_wd {k : Nat} {l : List Rat} (hl : l.length ≤ 1048576) (h : Wd k l) (hk : k ≤ 10000000000) : OKl l := ⟨hl, fun q hq => by
  obtain ⟨i, hi, rfl⟩ := List.getElem_of_mem hq
  rw [gt_get hi]
  exact qok_of (h i hi) hk⟩
theorem wd_mono {k k' : Nat} {l : List Rat} (h : Wd k l) (hk : k ≤ k') : Wd k' l := fun i hi => qw_mono (h i hi) hk
theorem wd_numsY (l : List ByteArray) : Wd 2200 (nums l) := fun i hi => by
  have hi : i < l.length := by simpa using hi
  rw [show gt (nums l) i = num (gt l i) by unfold nums; rw [gt_map _ hi]]
  exact qw_qrd _
theorem numsP_no {l : List ByteArray} (h : ¬ okN l = true) : numsP l = .tup [.ro [], .val (.bool false)] := by unfold numsP; rw [if_neg h]
theorem numsP_yes {l : List ByteArray} (h : okN l = true) : numsP l = .tup [.ro ((nums l).map qsv), .val (.bool true)] := by unfold numsP; rw [if_pos h]
theorem numsQ_yes {l : List ByteArray} (h : okN l = true) : numsQ l = .tup [.ro ((nums l).map rsv), .val (.bool true)] := by unfold numsQ; rw [if_pos h]
set_option maxRecDepth 20000 in
theorem solves_ok {n : Nat} {a : List (List Rat)} {f : Lu} {A0 : Mat} (h : LuOK n (ofL a) f A0) (t : Tw n n 4403 a) (b c : List ByteArray) (hb : SmN b) (hc : SmN c) :
    PureE Tryz.prog 19 [.rop (luV f) 0, .ro (a.map qlv), .ro (b.map strv), .ro (c.map strv)] (fun x => x = .val (.bool true)) := by
  have n6 := h.w.n6
  have hl := t.l
  have ol := h.w.o
  have nb := hb.n
  have nc := hc.n
  have g1 := rNumbers_ok b hb
  have g2 := rNumbers_ok c hc
  have g3 := pNumbers_ok b hb
  have g4 := pNumbers_ok c hc
  have wb : Wd 4403 (nums b) := wd_mono (wd_numsY b) (by omega)
  have wc : Wd 4403 (nums c) := wd_mono (wd_numsY c) (by omega)
  have wa : wide a = n := by
    rw [wide_def]
    by_cases hn : 0 < n
    · exact t.r 0 hn
    · obtain rfl : n = 0 := by omega
      rw [List.length_eq_zero_iff.1 hl]; rfl
  refine pureE_enter Tryz.func19 rfl (by simp) (fun C hC hX hE => ?_)
  refine CodeJ.go ?_
  simp
  by_cases ob : okN b = true
  · rw [numsP_yes ob] at g1
    rw [numsQ_yes ob] at g3
    by_cases oc : okN c = true
    · rw [numsP_yes oc] at g2
      rw [numsQ_yes oc] at g4
      refine callS (g1) (by simp) ?_
      simp
      refine callS (g2) (by simp) ?_
      simp
      refine callS (g3) (by simp) ?_
      simp
      refine callS (g4) (by simp) ?_
      simp
      by_cases lb : b.length = n
      · refine callP (qSolve_ok h (nums b) (by simpa using lb) wb) (by simp) ?_
        rintro y ⟨x, rfl, xl, xw, hx⟩
        simp [lb, hl]
        refine callS (pTexts_ok x (okl_wd (by omega) xw (by omega))) (by simp) ?_
        simp
        refine callS (rSaidY_ok x (by omega) (wd_mono xw (by omega))) (by simp) ?_
        simp [xl, hl]
        refine callS (rApply_ok (t.mono (by omega)) (by omega) (by omega) x xl (wd_mono xw (by omega))) (by simp) ?_
        rw [appL_eq t xl (by simpa using lb) hx]
        simp
        refine callS (rSameRowF_ok (nums b) (nums b) (k := 2200) (by omega) (wd_numsY b) (wd_numsY b) (by simpa using nb) (by simpa using nb)) (by simp) ?_
        simp
        by_cases lc : c.length = n
        · refine callP (qLeft_ok h (nums c) (by simpa using lc) wc) (by simp) ?_
          obtain ⟨-, yw, hy⟩ := h.left (by simpa using lc) wc
          have yl : (yL f (nums c) n n).length = n := by simp [lc]
          generalize yL f (nums c) n n = y at *
          rintro x0 rfl
          simp [lc, hl]
          refine callS (pTexts_ok y (okl_wd (by omega) yw (by omega))) (by simp) ?_
          simp
          refine callS (rSaidY_ok y (by omega) (wd_mono yw (by omega))) (by simp) ?_
          simp [yl, hl]
          refine callS (rTurned_ok t (by omega) (by omega) wa) (by simp) ?_
          simp
          refine callS (rApply_ok ((Tw.trL t).mono (show 4403 ≤ 10000 by omega)) (by omega) (by omega) y yl (wd_mono yw (by omega))) (by simp) ?_
          rw [appL_tr t yl (by simpa using lc) hy]
          simp
          refine callS (rSameRowF_ok (nums c) (nums c) (k := 2200) (by omega) (wd_numsY c) (wd_numsY c) (by simpa using nc) (by simpa using nc)) (by simp) ?_
          simp
        · refine callS (qLeftE_ok f (nums c) (by simpa [ol] using lc)) (by simp) ?_
          have lc' : ¬ (c.length : Int) = n := by omega
          simp [lc, lc', hl]
          refine callE (codedM_ok (c := 4) (by omega) (by omega) 4) hE hX (by simp) (fun x hx => ?_)
          subst hx
          simp
      · refine callS (qSolveE_ok f (nums b) (by simpa [ol] using lb)) (by simp) ?_
        have lb' : ¬ (b.length : Int) = n := by omega
        simp [lb, lb', hl]
        refine callE (codedM_ok (c := 4) (by omega) (by omega) 4) hE hX (by simp) (fun x hx => ?_)
        subst hx
        simp
    · rw [numsP_no oc] at g2
      refine callS (g1) (by simp) ?_
      simp
      refine callS (g2) (by simp) ?_
      simp
  · rw [numsP_no ob] at g1
    refine callS (g1) (by simp) ?_
    simp
    by_cases oc : okN c = true
    · rw [numsP_yes oc] at g2
      refine callS (g2) (by simp) ?_
      simp
    · rw [numsP_no oc] at g2
      refine callS (g2) (by simp) ?_
      simp
theorem nums_txts {w : List Rat} (hs : ∀ i, i < w.length → (qtxt (gt w i)).size ≤ 300) : okN (txts w) = true ∧ nums (txts w) = w ∧ ∀ s ∈ txts w, s.size ≤ 1048576 := by
  have e : ∀ i, i < w.length → gt (txts w) i = qtxt (gt w i) := fun i hi => by unfold txts; rw [gt_map _ hi]
  refine ⟨okN_true fun i hi => ?_, ext_gt' (by simp) fun i hi => ?_, fun s hs' => ?_⟩
  · have hi : i < w.length := by simpa using hi
    rw [e i hi, qrd_txt _ (hs i hi)]
  · have hi : i < w.length := by simpa using hi
    rw [show gt (nums (txts w)) i = num (gt (txts w) i) by unfold nums; rw [gt_map _ (by simpa using hi)], e i hi]
    unfold num
    rw [qrd_txt _ (hs i hi)]
  · obtain ⟨i, hi, rfl⟩ := List.getElem_of_mem hs'
    rw [gt_get hi]
    have hi : i < w.length := by simpa using hi
    rw [e i hi]
    have := hs i hi
    omega
/-- a column, another one, and its places' numbers -/
def sumC (a : List (List Rat)) (p : List Rat) (col n : Nat) : List Rat := (List.range n).map fun i => gt (gt a i) col + gt p i + ((i : Int) : Rat)
@[simp] theorem sumC_len (a : List (List Rat)) (p : List Rat) (col n : Nat) : (sumC a p col n).length = n := by simp [sumC]
theorem gt_sumC {a : List (List Rat)} {p : List Rat} {col n i : Nat} (h : i < n) : gt (sumC a p col n) i = gt (gt a i) col + gt p i + ((i : Int) : Rat) := by unfold sumC; rw [gt_range _ h]
noncomputable def luReplacedBody : Code := Tryz.f24.body.getD .skip
set_option maxRecDepth 20000 in
theorem replaced_ok {n : Nat} {a : List (List Rat)} {g : Lu} {A0 : Mat} (h : LuOK n (ofL a) g A0) (t : Tw n n 2200 a) (hl9 : g.later.length ≤ 9) (b c : List ByteArray) (hb : SmN b) (hc : SmN c) {col : Nat} (hcol : col < n) (p : List Rat) (hp : p.length = n) (wp : Wd 2200 p)
    (sq : ∀ i, i < n → Sh (gt (gt a i) col)) (sp : ∀ i, i < n → Sh (gt p i)) :
    PureE Tryz.prog 24 [.rop (luV g) 0, .ro (a.map qlv), .ro (b.map strv), .ro (c.map strv), iv col, .ro (p.map qsv)] (fun x => x = .val (.bool true)) := by
  have n6 := h.w.n6
  have hl := t.l
  have ol := h.w.o
  have t4 : Tw n n 4403 a := t.mono (by omega)
  have wa : wide a = n := by
    rw [wide_def]
    exact t.r 0 (by omega)
  have tl : (trL a n).length = n := by simp [trL]
  have lc := lget_qlv (l := trL a n) (i := col) (by omega)
  have rl : (gt (trL a n) col).length = n := (Tw.trL t).r col hcol
  have ww : Wd 4403 (sumC a p col n) := fun i hi => by
    have hi : i < n := by simpa using hi
    rw [gt_sumC hi]
    exact qw_mono (qw_add (qw_add (t.q i col hi hcol) (wp i (by omega))) (qw_small (n := (i : Int)) (by omega) (by omega))) (by omega)
  have nt := nums_txts (w := sumC a p col n) fun i hi => by
    have hi : i < n := by simpa using hi
    rw [gt_sumC hi]
    exact sh_sum (sq i hi) (sp i hi) (by omega)
  have g5 := pNumbers_ok (txts (sumC a p col n)) ⟨by simp; omega, nt.2.2⟩
  rw [numsQ_yes nt.1, nt.2.1] at g5
  refine pureE_enter Tryz.func24 rfl (by simp) (fun C hC hX hE => ?_)
  show CodeJ _ _ luReplacedBody _ (retQ _ [.tmp 12] _)
  refine CodeJ.cutAt 4 (fun st => st = ⟨117, [(0, .rop (luV g) 0), (1, .ro (a.map qlv)), (2, .ro (b.map strv)), (3, .ro (c.map strv)), (4, iv col), (14, .view 0 0 n)], [some ⟨4, (sumC a p col n).map qsv, false⟩]⟩) ?_ ?_
  rotate_left 1
  · rintro st rfl
    simp only [luReplacedBody, Tryz.f24, Option.getD_some, dropC_succ, dropC_zero]
    refine CodeJ.frz 0 rfl (by simp) ?_
    have tk : ((sumC a p col n).map qsv).take n = (sumC a p col n).map qsv := List.take_of_length_le (by simp)
    simp [frzS, tk]
    refine CodeJ.go ?_
    simp
    refine callS (rTold_ok (sumC a p col n) (okl_wd (by simp; omega) ww (by omega))) (by simp) ?_
    simp
    refine callS (g5) (by simp) ?_
    simp
    refine callP (qReplace_ok h col hcol (sumC a p col n) (by simp) ww) (by simp) ?_
    rintro y ⟨w, wl, wwd, hw, rfl⟩
    obtain ⟨e1, e2⟩ := h.put t4 hcol (x := sumC a p col n) (by simp) ww wl wwd hw hl9
    have tp := Tw.putL t4 (col := col) (x := sumC a p col n) (by simp) ww
    have qd := qw_detL tp n6
    have g6 := rPut_ok t4 (by omega) (by omega) hcol (sumC a p col n) (by simp)
    have g7 := rDet_ok tp n6
    by_cases z : gt w col = 0
    · have dz : Dt.det n (ofL (putL a col (sumC a p col n))) = 0 := by rw [e1, z, Rat.zero_mul]
      rw [if_pos z]
      simp
      refine callS (g6) (by simp) ?_
      simp
      refine callS (g7) (by simp) ?_
      simp
      refine callS (sgnP _) (by simp) ?_
      simp [dz]
      refine callE (codedM_ok (c := 5) (by omega) (by omega) 5) hE hX (by simp) (fun x hx => ?_)
      subst hx
      simp
    · have dz : Dt.det n (ofL (putL a col (sumC a p col n))) ≠ 0 := by
        rw [e1]
        intro q
        rcases Rat.mul_eq_zero.1 q with q | q
        · exact z q
        · exact h.nz q
      rw [if_neg z]
      simp
      refine callS (g6) (by simp) ?_
      simp
      refine callS (g7) (by simp) ?_
      simp
      refine callS (sgnP _) (by simp) ?_
      simp [dz]
      have ok2 := e2 z
      refine callS (qDetA_ok ok2) (by simp) ?_
      simp
      generalize hd : Dt.det n (ofL (putL a col (sumC a p col n))) = d at *
      refine CodeJ.draw (.qs [0, 2] <| .l 1 [] <| .l 3 [] <| .qs [4, 5, 6, 8, 9] <| .l 7 [] <| .qs [10, 11] <| .nil) (by kernel_rfl) (by kernel_rfl) (by simp) ?_
      simp
      refine callS (qText_ok d (qok_of qd (by omega))) (by simp) ?_
      simp
      refine callS (pText_ok d (qok_of qd (by omega))) (by simp) ?_
      simp
      refine callS (qSize_ok _) (by simp) ?_
      simp [ol, hl]
      refine callE (solves_ok ok2 tp b c hb hc) hE hX (by simp) (fun x hx => ?_)
      subst hx
      simp
      refine callE (solves_ok h t4 b c hb hc) hE hX (by simp) (fun x hx => ?_)
      subst hx
      simp
  simp only [luReplacedBody, Tryz.f24, Option.getD_some, takeC_succ, takeC_zero]
  simp
  refine callS (rTurned_ok t (by omega) (by omega) wa) (by simp) ?_
  simp (disch := omega) [tl, hcol, lc]
  repeat (refine And.intro (by omega) ?_)
  refine CodeJ.nil 14 4 rfl ?_
  refine CodeJ.loopL (ι := Nat × List Rat) (fun ⟨i, xs⟩ => ⟨117, [(0, .rop (luV g) 0), (1, .ro (a.map qlv)), (2, .ro (b.map strv)), (3, .ro (c.map strv)), (4, iv col), (5, .ro (p.map qsv)), (13, .ro ((gt (trL a n) col).map qsv)), (14, .view 0 0 xs.length), (15, iv i)], [some ⟨4, xs.map qsv, false⟩]⟩)
    (fun ⟨i, xs⟩ => i ≤ n ∧ xs = (sumC a p col n).take i) (fun ⟨i, xs⟩ => n - i) (0, []) (by simp) ?_ ?_
  · simp [leS, hC]
  · rintro ⟨i, xs⟩ ⟨hi, hx⟩
    have hxl : xs.length = i := by rw [hx]; simp; omega
    by_cases hin : i < n
    · have l1 := lget_q (l := gt (trL a n) col) (i := i) (by omega)
      rw [gt_trL hcol (by omega)] at l1
      have l2 := lget_q (l := p) (i := i) (by omega)
      have e3 := take_gt (l := sumC a p col n) (i := i) (by simpa using hin)
      rw [← hx, gt_sumC hin] at e3
      have q1 := t.q i col hin hcol
      have q2 := wp i (by omega)
      simp (disch := omega) [hin, rl]
      repeat (refine And.intro (by omega) ?_)
      refine CodeJ.drawZ (.d 9 <| .qs [0, 1, 2, 3, 4, 5, 6, 7] <| .p 8 <| .b (.l 10 [1] <| .nil)) (by kernel_rfl) (by kernel_rfl) (by simp) ?_
      simp (disch := omega) [rl, hp, l1, l2, hin]
      repeat (refine And.intro (by omega) ?_)
      refine callV (pAdd_ok _ _ (qok_of q1 (by omega)) (qok_of q2 (by omega))) (by simp) ?_
      simp (disch := omega) [rl]
      repeat (refine And.intro (by omega) ?_)
      refine CodeJ.draw (.qs [0, 1, 2] <| .l 3 [] <| .l 4 [] <| .l 5 [] <| .l 6 [1000000] <| .qs [7] <| .nil) (by kernel_rfl) (by kernel_rfl) (by simp) ?_
      simp (disch := omega) [rl]
      repeat (refine And.intro (by omega) ?_)
      refine callS (pInt_ok (i : Int) (by omega) (by omega)) (by simp) ?_
      simp (disch := omega) [rl]
      repeat (refine And.intro (by omega) ?_)
      refine callS (pAdd_ok _ _ (qok_of (qw_add q1 q2) (by omega)) (qok_of (qw_small (n := (i : Int)) (by omega) (by omega)) (by omega))) (by simp) ?_
      simp (disch := omega) [rl, w64]
      repeat (refine And.intro (by omega) ?_)
      exact ⟨⟨by simp [hC], by omega⟩, i + 1, xs ++ [gt (gt a i) col + gt p i + ((i : Int) : Rat)], ⟨by omega, e3.symm⟩, by omega, Le.syn (by simp (disch := omega) [leS, hC, w64])⟩
    · obtain rfl : i = n := by omega
      rw [List.take_of_length_le (by simp)] at hx
      subst hx
      simp [rl, leS, hC]
end Go.Proofs
namespace Go.Proofs
open Go.Sv Go Go.Tb Go.Pl Go.Ut Go.Mx Go.Dt
set_option maxRecDepth 20000 in
theorem matrixFactor_ok (l : List (List ByteArray)) (b c : List ByteArray) (col : Int) (put : List ByteArray) (hl : SmT l) (hb : SmN b) (hc : SmN c) (hp : SmN put) :
    PureE Tryz.prog 3 [.ro (l.map tsv), .ro (b.map strv), .ro (c.map strv), iv col, .ro (put.map strv)] (fun x => x = .val (.bool true)) := by
  have n1 := hl.n
  have g1 := rRows_ok l hl
  rw [tabX_eq] at g1
  have gs := few6_ok [b, c, put] ⟨by simp, by simp; exact ⟨hb, hc, hp⟩⟩
  refine pureE_enter Tryz.func3 rfl (by simp) (fun C hC hX hE => ?_)
  refine CodeJ.go ?_
  simp
  refine callS (g1) (by simp) ?_
  simp
  refine callP (few6_ok l hl) (by simp) ?_
  rintro x ⟨b1, rfl, f1⟩
  simp
  refine callFz 0 rfl (by simp) ?_
  simp
  refine callP gs (by simp) ?_
  rintro x ⟨b2, rfl, f2⟩
  simp
  refine fun o1 h1 h2 => ?_
  have f0 := f1 h1
  have f := f0
  have f' := f2 h2
  have hn := f.n
  have g2 := pRows_ok l hl
  rw [show tabsQ l = .tup [.ro ((tabs l).map rlv), .val (.bool true)] by simp [tabsQ, o1]] at g2
  have r1 := few_row f
  have eX : tabX l = (tabs l).map qlv := by unfold tabX; rw [if_pos o1]
  rw [eX]
  refine callS (g2) (by simp) ?_
  simp
  have gq := rSquare_ok (tabs l) (by rw [tabs_len]; omega) r1
  by_cases ht : isTab (tabs l) = true ∧ wide (tabs l) = (tabs l).length
  · have tw : Tw l.length l.length 2200 (tabs l) := by
      have := tw_of f ht.1
      rwa [ht.2, tabs_len] at this
    have t4 : Tw l.length l.length 4403 (tabs l) := tw.mono (by omega)
    have g4 : widthQ (tabs l) = .tup [.val (.int .i64 (l.length : Nat)), .val (.bool true)] := by
      obtain ⟨w, e1, e2⟩ := width_eq (tabs l)
      rw [e1, ht.1, e2 ht.1, ht.2, tabs_len]
    rw [ht.1, ht.2] at gq
    have gd := rDet_ok t4 hn
    refine callP (qFactor_ok (tabs l) l.length tw hn g4) (by simp) ?_
    rintro y (⟨dz, rfl⟩ | ⟨f, hf, fl, rfl⟩)
    · simp
      refine callS (gq) (by simp) ?_
      simp
      refine callS (gd) (by simp) ?_
      simp
      refine callS (sgnP _) (by simp) ?_
      simp [dz]
      refine callE (codedM_ok (c := 5) (by omega) (by omega) 5) hE hX (by simp) (fun x hx => ?_)
      subst hx
      simp
    · have dz := hf.nz
      have qd := qw_detL t4 hn
      simp
      refine callS (gq) (by simp) ?_
      simp
      refine callS (gd) (by simp) ?_
      simp
      refine callS (sgnP _) (by simp) ?_
      simp [dz]
      refine callS (qSize_ok f) (by simp) ?_
      simp [hf.w.o]
      refine callS (qDetA_ok hf) (by simp) ?_
      simp
      generalize hd : Dt.det l.length (ofL (tabs l)) = d at *
      refine CodeJ.draw (.qs [0, 2] <| .l 1 [] <| .l 3 [] <| .qs [4] <| .nil) (by kernel_rfl) (by kernel_rfl) (by simp) ?_
      simp
      refine callS (qText_ok d (qok_of qd (by omega))) (by simp) ?_
      simp
      refine callS (pText_ok d (qok_of qd (by omega))) (by simp) ?_
      simp
      refine callE (solves_ok hf t4 b c hb hc) hE hX (by simp) (fun x hx => ?_)
      subst hx
      simp
      by_cases op : okN put = true
      · have g6 := rNumbers_ok put hp
        have g7 := pNumbers_ok put hp
        rw [numsP_yes op] at g6
        rw [numsQ_yes op] at g7
        refine callS (g6) (by simp) ?_
        simp
        refine callS (g7) (by simp) ?_
        simp
        by_cases hcol : 0 ≤ col ∧ col < l.length ∧ put.length = l.length
        · obtain ⟨k, rfl⟩ : ∃ k : Nat, col = k := ⟨col.toNat, by omega⟩
          have hk : k < l.length := by omega
          have lp := hcol.2.2
          refine callP (qReplace_ok hf k hk (nums put) (by simpa using lp) (wd_mono (wd_numsY put) (by omega))) (by simp) ?_
          rintro y ⟨w, wl, wwd, hw, rfl⟩
          obtain ⟨e1, e2⟩ := hf.put t4 hk (x := nums put) (by simpa using lp) (wd_mono (wd_numsY put) (by omega)) wl wwd hw (by rw [fl]; simp)
          have tp2 := Tw.putL tw (col := k) (x := nums put) (by simpa using lp) (wd_numsY put)
          have tp : Tw l.length l.length 4403 _ := tp2.mono (by omega)
          have g8 := rPut_ok t4 (by omega) (by omega) hk (nums put) (by simpa using lp)
          have g9 := rDet_ok tp hn
          have qd2 := qw_detL tp hn
          rw [hd] at e1
          have k1 : ¬ ((k : Int) < 0) := by omega
          have k2 : ¬ ((l.length : Int) ≤ k) := by omega
          have k3 : (k : Int) < l.length := by omega
          by_cases z : gt w k = 0
          · have dz2 : Dt.det l.length (ofL (putL (tabs l) k (nums put))) = 0 := by rw [e1, z, Rat.zero_mul]
            rw [if_pos z]
            simp [k1, k2, k3, lp]
            refine callS (g8) (by simp) ?_
            simp
            refine callS (g9) (by simp) ?_
            simp
            refine callS (sgnP _) (by simp) ?_
            simp [dz2]
            refine callE (codedM_ok (c := 5) (by omega) (by omega) 5) hE hX (by simp) (fun x hx => ?_)
            subst hx
            simp
          · have dz2 : Dt.det l.length (ofL (putL (tabs l) k (nums put))) ≠ 0 := by
              rw [e1]
              intro q
              rcases Rat.mul_eq_zero.1 q with q | q
              · exact z q
              · exact dz q
            rw [if_neg z]
            simp [k1, k2, k3, lp]
            refine callS (g8) (by simp) ?_
            simp
            refine callS (g9) (by simp) ?_
            simp
            refine callS (sgnP _) (by simp) ?_
            simp [dz2]
            have ok2 := e2 z
            refine callS (qDetA_ok ok2) (by simp) ?_
            simp
            have rep := replaced_ok ok2 tp2 (by simp [fl]) b c hb hc (col := (k + 1) % l.length) (Nat.mod_lt _ (by omega)) (nums put) (by simpa using lp) (wd_numsY put) (fun i hi => ?_) (fun i hi => ?_)
            rotate_left 1
            · rw [gt_putL (by rw [tabs_len]; exact hi), gt_set (by rw [tw.r i hi]; exact Nat.mod_lt _ (by omega))]
              split
              · rw [Go.Ut.gt_nums (by omega)]
                exact sh_qrd ((f'.r 2 (by simp)).2 i (by show i < put.length; omega))
              · have hm : (k + 1) % l.length < (gt l i).length := by
                  have := tw.r i hi
                  rw [gt_tabs hi, nums_len] at this
                  rw [this]; exact Nat.mod_lt _ (by omega)
                rw [gt_tabs hi, Go.Ut.gt_nums hm]
                exact sh_qrd ((f0.r i hi).2 _ hm)
            · rw [Go.Ut.gt_nums (by omega)]
              exact sh_qrd ((f'.r 2 (by simp)).2 i (by show i < put.length; omega))
            generalize hd2 : Dt.det l.length (ofL (putL (tabs l) k (nums put))) = d2 at *
            refine CodeJ.draw (.qs [0, 2] <| .l 1 [] <| .l 3 [] <| .qs [4, 5, 6, 8, 9] <| .l 7 [] <| .qs [10, 11] <| .nil) (by kernel_rfl) (by kernel_rfl) (by simp) ?_
            simp
            refine callS (qText_ok d2 (qok_of qd2 (by omega))) (by simp) ?_
            simp
            refine callS (pText_ok d2 (qok_of qd2 (by omega))) (by simp) ?_
            simp
            refine callS (qSize_ok _) (by simp) ?_
            simp [hf.w.o]
            refine callE (solves_ok ok2 tp b c hb hc) hE hX (by simp) (fun x hx => ?_)
            subst hx
            simp
            refine callE (solves_ok hf t4 b c hb hc) hE hX (by simp) (fun x hx => ?_)
            subst hx
            simp
            have lne : ¬ l = [] := fun q => by rw [q] at hk; simp at hk
            have tm : (IntKind.i64.wrap ((k : Int) + 1)).tmod (l.length : Int) = (((k + 1) % l.length : Nat) : Int) := by
              rw [show IntKind.i64.wrap ((k : Int) + 1) = ((k + 1 : Nat) : Int) by simp (disch := omega) [w64], Int.tmod_eq_emod_of_nonneg (by omega), Int.natCast_emod]
            refine ⟨lne, ?_⟩
            rw [tm]
            refine callE rep hE hX (by simp) (fun x hx => ?_)
            subst hx
            simp
        · have hE4 := qReplaceE_ok f col (nums put) (by rw [hf.w.o, nums_len]; omega)
          refine callS (hE4) (by simp) ?_
          simp
          have code4 := codedM_ok (c := 4) (by omega) (by omega) 4
          by_cases c1 : col < 0
          · have c1n : ¬ 0 ≤ col := by omega
            simp [c1, c1n]
            refine callE code4 hE hX (by simp) (fun x hx => ?_)
            subst hx
            simp
          · by_cases c2 : (l.length : Int) ≤ col
            · have c1n : 0 ≤ col := by omega
              have c2n : ¬ col < (l.length : Int) := by omega
              simp [c1, c2, c1n, c2n]
              refine callE code4 hE hX (by simp) (fun x hx => ?_)
              subst hx
              simp
            · have c3 : ¬ put.length = l.length := by omega
              have c3' : ¬ (put.length : Int) = l.length := by omega
              have c2' : col < (l.length : Int) := by omega
              have c1n : 0 ≤ col := by omega
              simp [c1, c2, c2', c3, c3', c1n]
              refine callE code4 hE hX (by simp) (fun x hx => ?_)
              subst hx
              simp
      · have g6 := rNumbers_ok put hp
        rw [numsP_no op] at g6
        refine callS (g6) (by simp) ?_
        simp
  · have g3 : (isTab (tabs l) && decide (wide (tabs l) = (tabs l).length)) = false := by
      cases h : isTab (tabs l) <;> simp; intro e; exact ht ⟨h, by rw [tabs_len]; exact e⟩
    rw [g3] at gq
    refine callS (qFactorE_ok (tabs l) ht (by rw [tabs_len]; omega) r1) (by simp) ?_
    simp
    refine callS (gq) (by simp) ?_
    simp
    refine callE (codedM_ok (c := 4) (by omega) (by omega) 4) hE hX (by simp) (fun x hx => ?_)
    subst hx
    simp
theorem intF_sv (x : (Pt.int .i64).T) : (Pt.int .i64).sv x = iv x := rfl
end Go.Proofs

