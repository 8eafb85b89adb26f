/- What the law WitnessLimit returns. A text of the prover's own. -/
import Derived.Test.YtlkaaaoeemejoaaGreatDoorRKj
import Derived.Test.YtlkaaaoeemejoaaGreatDoorRMt
namespace Go.Li
open Go Go.Sv Go.Pl Go.Proofs Go.Tb Go.Ut
theorem n0 : num s0 = 0 := by decide +kernel
theorem n1 : num s1 = 1 := by decide +kernel
theorem n2 : num s2 = 2 := by decide +kernel
theorem n3 : num s3 = 3 := by decide +kernel
theorem n4 : num s4 = 4 := by decide +kernel
theorem n5 : num s5 = 5 := by decide +kernel
theorem n6 : num s6 = 6 := by decide +kernel
def P1 : Prob := ⟨true, 0, [⟨sx, false, ⟨true, 0⟩, ⟨true, 4⟩, 3⟩, ⟨sy, false, ⟨true, 0⟩, ⟨true, 4⟩, 5⟩], [⟨sone, [⟨0, 1⟩, ⟨1, 2⟩], ⟨false, 0⟩, ⟨true, 6⟩⟩]⟩
theorem prob_first : probOf firstS = P1 := by
  have e : ∀ s : ByteArray, isNo s = false → boOf s = ⟨true, num s⟩ := fun s h => by unfold boOf; rw [h]; rfl
  have e' : boOf e0 = ⟨false, 0⟩ := rfl
  simp [probOf, firstS, P1, colOf, rowOf, zipR, termOf, n0, n1, n2, n3, n4, n5, n6, e s0 (by decide), e s3 (by decide), e s4 (by decide), e s5 (by decide), e s6 (by decide), e']
theorem ok_first : okS firstS = true := by decide +kernel
theorem few_first : fewB firstS = true := by decide +kernel
theorem valid_first : validC P1 = 0 := by unfold validC; decide +kernel
theorem lim_first : (limB P1 [2]).has = true ∧ (limB P1 [2]).at' = 20 := ⟨by decide +kernel, by decide +kernel⟩
theorem txt_20 : qtxt 20 = ⟨#[50, 48]⟩ := by decide +kernel
theorem txt_0 : qtxt 0 = ⟨#[48]⟩ := by decide +kernel
theorem sm_first : SmS firstS where
  shift := by decide
  nc := by decide
  nr := by decide
  cols := fun i hi => by
    match i, hi with
    | 0, _ => exact ⟨by decide, by decide, by decide, by decide⟩
    | 1, _ => exact ⟨by decide, by decide, by decide, by decide⟩
  rows := fun i hi => by
    match i, hi with
    | 0, _ => exact ⟨by decide, by decide, by decide, by decide, ⟨by decide, fun x hx => by
        have hx' : x = s1 ∨ x = s2 := by simpa [firstS, gt] using hx
        rcases hx' with e | e <;> rw [e] <;> decide⟩⟩
end Go.Li
namespace Go.Proofs
open Go.Sv Go Go.Tb Go.Pl Go.Ut Go.Li
set_option maxRecDepth 20000 in
theorem witnessLimit_ok (s : SpecT) (y : List ByteArray) (h : SmS s) (hy : SmN y) :
    PureE Tryz.prog 8 [specT s, .ro (y.map strv)] (fun x => x = .val (.bool true)) := by
  have o2 : PureF Tryz.prog 49 [.val (.int .i64 2)] (rsv 2) := qInt_ok 2 (by omega) (by omega)
  have w2 : Wd 2200 [2] := fun i hi => by
    have e : i = 0 := by simpa using hi
    subst e
    exact qw_mono (qw_small (n := 2) (by omega) (by omega)) (by omega)
  have fw1 : Few P1 := ⟨by decide, by decide, fun i hi => by
    match i, hi with
    | 0, _ => decide⟩
  have pw1 : ProbW P1 := by rw [← prob_first]; exact probW_of _
  have gL := qLimit_ok P1 fw1 pw1 valid_first [2] w2 rfl
  rw [lim_first.1, lim_first.2] at gL
  have q0 : qok 0 := qok_of (qw_small (n := 0) (by omega) (by omega)) (by omega)
  have q20 : qok 20 := qok_of (qw_small (n := 20) (by omega) (by omega)) (by omega)
  have gT := qText_ok 20 q20
  rw [txt_20] at gT
  have gF := both_ok firstS sm_first few_first
  rw [prob_first, ok_first] at gF
  refine pureE_enter Tryz.func8 rfl (by simp) (fun C hC hX hE => ?_)
  refine CodeJ.go ?_
  simp
  refine callS (first_ok) (by simp) ?_
  simp
  refine callS (gF) (by simp) ?_
  simp
  refine callS (o2) (by simp) ?_
  simp
  refine callF gL (by simp) ?_
  simp
  refine callS (gT) (by simp) ?_
  simp
  have g2 := rNumbers_ok y hy
  rw [numX_eq] at g2
  have g3 := shorts2_ok y hy.n (fun i hi => hy.s _ (gt_mem hi))
  by_cases hf : fewB s = true
  · have gB := both_ok s h hf
    by_cases ho : okS s = true
    · rw [ho, probX_of ho] at gB
      have fw := few_of h
      have pw := probW_of s
      generalize probOf s = p at *
      refine callS (gB) (by simp) ?_
      simp
      refine callS (g2) (by simp) ?_
      simp
      refine callS (g3) (by simp) ?_
      simp
      refine fun c1 c2 => ?_
      have eX : numX y = (nums y).map qsv := by unfold numX; rw [if_pos c1]
      have g4 := pNumbers_ok y hy
      rw [numY_eq, numY, if_pos c1, c1] at g4
      have hyw := wd_nums y
      have hyl := nums_len y
      have gv := rValid_ok p fw
      rw [eX]
      refine callS (g4) (by simp) ?_
      simp
      by_cases hv : validC p = 0
      · rw [hv] at gv
        by_cases hl : (nums y).length = p.rows.length
        · have gl := qLimit_ok p fw pw hv (nums y) hyw hl
          obtain ⟨v1, v2, v3⟩ := valid_yes hv
          have gm := rLimit_ok p fw pw v1 v2 (nums y) hyw hl
          have gpq := qPrices_ok p fw pw v1 v2 v3 (nums y) hyw hl
          have gpp := rPrices_ok p fw pw v1 v2 (nums y) hyw hl
          have wB : qok (limB p (nums y)).at' := by
            have := spW_C pw hyw (by omega) v1 p.cols.length (by omega)
            unfold limB; split
            · exact qok_of this.2 (by omega)
            · exact qok_of this.1 (by omega)
          have hl' : (y.length : Int) = p.rows.length := by omega
          have tq := qText_ok _ wB
          have tp := pText_ok _ wB
          have wP : OKl (pricesP p (nums y)) := by
            have pl := pricesP_len p (nums y)
            refine ⟨by omega, fun x hx => ?_⟩
            obtain ⟨i, hi, rfl⟩ := List.getElem_of_mem hx
            rw [gt_get hi]
            rw [pl] at hi
            rw [gt_prices hi]
            exact qok_of (qw_dP pw hyw (by omega) (by omega) p.rows.length (by omega)) (by omega)
          have ht1 := pTexts_ok _ wP
          have ht2 := rTold_ok _ wP
          generalize limB p (nums y) = b at *
          refine callS (gl) (by simp) ?_
          simp
          refine callS (gv) (by simp) ?_
          simp [hl']
          refine callS (gm) (by simp) ?_
          simp
          refine CodeJ.draw (.qs [0, 1, 2, 3, 4, 5, 6, 7, 8, 10] <| .l 9 [] <| .l 11 [] <| .qs [12, 13] <| .nil) (by kernel_rfl) (by kernel_rfl) (by simp) ?_
          simp
          refine callS (tq) (by simp) ?_
          simp
          refine callS (tp) (by simp) ?_
          simp
          refine callS (gpq) (by simp) ?_
          simp
          refine callS (ht1) (by simp) ?_
          simp
          refine callS (gpp) (by simp) ?_
          simp
          refine callS (ht2) (by simp) ?_
          simp
          refine CodeJ.loopL (ι := Nat) (fun i => ⟨159, [(22, .ro ((txts (pricesP p (nums y))).map strv)), (23, .ro ((txts (pricesP p (nums y))).map strv)), (24, iv i)], []⟩)
            (fun i => i ≤ p.cols.length) (fun i => p.cols.length - i) 0 (by simp) ?_ ?_
          · simp [leS, hC]
          · rintro i hi
            have pl : (txts (pricesP p (nums y))).length = p.cols.length := by rw [txts_len, pricesP_len]
            have pl' := pricesP_len p (nums y)
            by_cases hlt : i < p.cols.length
            · have hlt' : i < (txts (pricesP p (nums y))).length := by omega
              simp (disch := omega) [pl, hlt, lget_str]
              repeat (refine And.intro (by omega) ?_)
              refine CodeJ.draw (.qs [0, 1, 2, 3, 4, 5, 6, 7, 8] <| .nil) (by kernel_rfl) (by kernel_rfl) (by simp) ?_
              simp (disch := omega) [pl, lget_str, w64]
              repeat (refine And.intro (by omega) ?_)
              exact ⟨i + 1, by omega, by omega, Le.syn (by simp (disch := omega) [leS, hC, w64])⟩
            · obtain rfl : i = p.cols.length := by omega
              simp [pl]
        · have gl := qLimitS_ok p fw hv (nums y) hl
          refine callS (gl) (by simp) ?_
          simp
          refine callS (gv) (by simp) ?_
          simp [show ¬ (y.length : Int) = p.rows.length by omega]
          refine callE (coded2_ok (c := 4) (by omega) (by omega) 4) hE hX (by simp) (fun x hx => ?_)
          subst hx
          simp
          refine callS (qText_ok 0 q0) (by simp) ?_
          simp [txt_0]
      · have gl := qLimitE_ok p fw hv (nums y)
        have hv' := valid_le p hv
        refine callS (gl) (by simp) ?_
        simp
        refine callS (gv) (by simp) ?_
        simp [hv, hv'.1]
        refine callE (coded2_ok hv'.1 hv'.2 (validC p)) hE hX (by simp) (fun x hx => ?_)
        subst hx
        simp
        refine callS (qText_ok 0 q0) (by simp) ?_
        simp [txt_0]
    · have ho' : okS s = false := by simpa using ho
      rw [ho'] at gB
      refine callS (gB) (by simp) ?_
      simp
      refine callS (g2) (by simp) ?_
      simp
      refine callS (g3) (by simp) ?_
      simp
  · have gB := bothNo_ok s h (by simpa using hf)
    refine callS (gB) (by simp) ?_
    simp
    refine callS (g2) (by simp) ?_
    simp
    refine callS (g3) (by simp) ?_
    simp
end Go.Proofs

