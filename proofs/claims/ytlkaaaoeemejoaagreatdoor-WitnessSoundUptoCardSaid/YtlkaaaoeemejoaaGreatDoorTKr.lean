/- What the law WitnessSound returns. A text of the prover's own. -/
import Derived.Test.YtlkaaaoeemejoaaGreatDoorTKq
import Derived.Test.YtlkaaaoeemejoaaGreatDoorTKo
import Derived.Test.YtlkaaaoeemejoaaGreatDoorTKk
namespace Go.Li
open Go Go.Sv Go.Pl Go.Proofs Go.Tb Go.Ut
theorem txt_sz {x : Int} {k : Nat} (h : fw k x) : (txt x).size ≤ 10 * k + 2 := by
  have e : txt x = sb (txtL x) := rfl
  rw [e, sb_size]
  unfold txtL
  have h1 := wid_ten x.natAbs
  unfold fw at h
  have h2 : (dig 10 x.natAbs).length ≤ 10 * k := by
    have : (dig 10 x.natAbs).length = wid 10 x.natAbs := rfl
    omega
  split
  · simp
  · split <;> simp <;> omega
theorem qtxt_sz {q : Rat} (h : qw 2200 q) : (qtxt q).size ≤ 100000 := by
  have h1 := txt_sz h.1
  have h2 := txt_sz h.2
  unfold qtxt
  split
  · omega
  · rw [size_app, size_app]
    have : (⟨#[47]⟩ : ByteArray).size = 1 := rfl
    omega
def shClm (c : ClmT) : Bool := shortB c.x && shortB c.y && shortB c.ray && decide (c.value.size ≤ 24)
def s52 : ByteArray := ⟨#[53, 47, 50]⟩
def s17 : ByteArray := ⟨#[49, 55]⟩
def goodT : ClmT := ⟨1, [s4, s1], [s52], [], s17⟩
theorem n52 : num s52 = 5 / 2 := by decide +kernel
theorem n17 : num s17 = 17 := by decide +kernel
theorem good_of : clOf goodT = ⟨1, [4, 1], [5 / 2], [], 17⟩ := by
  have h1 : numR [s4, s1] = [4, 1] := by
    unfold numR; rw [if_pos (by decide +kernel)]; simp [nums, n4, n1]
  have h2 : numR [s52] = [5 / 2] := by
    unfold numR; rw [if_pos (by decide +kernel)]; simp [nums, n52]
  have h3 : numR [] = [] := by unfold numR; split <;> rfl
  unfold clOf goodT
  simp only [h1, h2, h3, n17]
theorem good_ok : okCl goodT = true := by decide +kernel
theorem good_chk : chkB P1 (clOf goodT) = true := by rw [good_of]; decide +kernel
theorem sm_good : SmCl goodT := by
  have e : ∀ x ∈ [s4, s1], x.size ≤ 1048576 := fun x hx => by
    simp only [List.mem_cons, List.not_mem_nil, or_false] at hx
    rcases hx with e | e <;> rw [e] <;> decide
  have e2 : ∀ x ∈ [s52], x.size ≤ 1048576 := fun x hx => by
    simp only [List.mem_cons, List.not_mem_nil, or_false] at hx
    rw [hx]; decide
  exact ⟨⟨by decide, e⟩, ⟨by decide, e2⟩, ⟨by decide, fun x hx => by cases hx⟩, by decide⟩
/-- a point that holds is not better -/
theorem sound {p : Prob} (hv : validC p = 0) {c : Clm} (hc : chkB p c = true) {x : List Rat} (hx : holdsB p x false = true) :
    c.kind = 3 ∨ (c.kind = 1 ∧ (valK p x p.cols.length = c.value ∨ (decide (valK p x p.cols.length < c.value) = p.max))) := by
  unfold chkB at hc
  by_cases h1 : c.kind = 1
  · rw [if_pos h1] at hc
    refine .inr ⟨h1, ?_⟩
    unfold bestB at hc
    simp only [Bool.and_eq_true, decide_eq_true_eq] at hc
    obtain ⟨-, ⟨g1, g2⟩, g3⟩ := hc
    have hw := weak hv c.y hx
    rw [g2] at g3
    unfold limB at g1 g3
    by_cases hm : p.max = true
    · rw [if_pos hm] at g1 g3
      have := hw.2 g1
      rw [g3] at this
      rcases Rat.le_iff_lt_or_eq.1 this with h | h
      · exact .inr (by rw [hm]; simp [h])
      · exact .inl h
    · rw [if_neg hm] at g1 g3
      have := hw.1 g1
      rw [g3] at this
      refine .inr ?_
      have hm' : p.max = false := by simpa using hm
      rw [hm']
      simp [Rat.not_lt.2 this]
  · rw [if_neg h1] at hc
    by_cases h2 : c.kind = 2
    · rw [if_pos h2] at hc
      exfalso
      unfold noneB at hc
      simp only [Bool.and_eq_true] at hc
      have g := hc.2
      split at g
      · rw [crossed_no hx] at g; cases g
      · simp only [Bool.and_eq_true] at g
        rw [farkas hv c.y hx] at g
        cases g.2
    · rw [if_neg h2] at hc
      by_cases h3 : c.kind = 3
      · exact .inl h3
      · rw [if_neg h3] at hc; cases hc
end Go.Li
namespace Go.Proofs
open Go.Sv Go Go.Tb Go.Pl Go.Ut Go.Li
theorem claims_ok (c : ClmT) (h : SmCl c) : PureF Tryz.prog 40 [clT c] (bov (shClm c)) := by
  have hv := h.v
  refine pure_enter Tryz.func40 rfl (by simp) (fun C hC => ?_)
  simp
  refine callS (shorts2_ok c.x h.x.n (fun i hi => h.x.s _ (gt_mem hi))) (by simp) ?_
  simp
  refine callS (shorts2_ok c.y h.y.n (fun i hi => h.y.s _ (gt_mem hi))) (by simp) ?_
  simp
  refine callS (shorts2_ok c.ray h.r.n (fun i hi => h.r.s _ (gt_mem hi))) (by simp) ?_
  simp
  repeat' (apply And.intro <;> intro _)
  all_goals first | (simp [shClm, *]; done) | (simp [shClm, *]; omega)
theorem rSaid_ok (q : Rat) (h : qw 2200 q) : PureF Tryz.prog 100 [.val (.string (qtxt q))] (.tup [qsv q, fsv 0 (-1)]) := by
  have hz := qtxt_sz h
  have g := pqread_ok (qtxt q) ((qtxt q).size + 1) (by omega) (by omega) (by omega)
  rw [qrd_txt q (by omega)] at g
  rw [show outP (q, 0, 0) = .tup [qsv q, fsv 0 (-1)] by simp [outP, fsv]] at g
  refine pure_enter Tryz.func100 rfl (by simp) (fun C hC => ?_)
  simp (disch := omega) [w64]
  repeat (refine And.intro (by omega) ?_)
  refine callS (g) (by simp) ?_
  simp [fsv]
set_option maxRecDepth 10000 in
theorem beat3_ok (p : Prob) (t : ByteArray) (x : List Rat) : PureF Tryz.prog 43 [probP p, iv 3, .val (.string t), .ro (x.map qsv)] (bov true) := by
  refine pure_enter Tryz.func43 rfl (by simp) (fun C hC => ?_)
  simp
set_option maxRecDepth 10000 in
theorem beat1_ok (p : Prob) (h : Few p) (hw : ProbW p) (hv : validC p = 0) (q : Rat) (hq : qw 2200 q) (x : List Rat) (hx : Wd 2200 x) (hl : x.length = p.cols.length) (hb : valK p x p.cols.length = q ∨ (decide (valK p x p.cols.length < q) = p.max)) : PureF Tryz.prog 43 [probP p, iv 1, .val (.string (qtxt q)), .ro (x.map qsv)] (bov true) := by
  have v2 := (valid_yes hv).2.1
  have wv := qw_valK hw hx (by omega) p.cols.length (by omega)
  refine pure_enter Tryz.func43 rfl (by simp) (fun C hC => ?_)
  simp
  refine callS (rSaid_ok q hq) (by simp) ?_
  simp [fsv]
  refine callS (rValue_ok p h hw x hx hl) (by simp) ?_
  simp
  refine callS (cmpP _ q (qok_of wv (by omega)) (qok_of hq (by omega))) (by simp) ?_
  simp
  exact fun h => hb.resolve_left h
set_option maxRecDepth 20000 in
theorem witnessSound_ok (s : SpecT) (c : ClmT) (y : List ByteArray) (h : SmS s) (hc : SmCl c) (hy : SmN y) :
    PureF Tryz.prog 6 [specT s, clT c, .ro (y.map strv)] (.val (.bool true)) := by
  have gF := both_ok firstS sm_first few_first
  rw [prob_first, ok_first] at gF
  have fw1 : Few P1 := ⟨by decide, by decide, fun i hi => by
    match i, hi with
    | 0, _ => decide⟩
  have pw1 : ProbW P1 := by rw [← prob_first]; exact probW_of _
  have gG := qClaim_ok goodT sm_good
  rw [good_ok] at gG
  have gC := qCheck_ok P1 fw1 pw1 valid_first (clOf goodT) (clW_of sm_good)
  rw [good_chk] at gC
  refine pure_enter Tryz.func6 rfl (by simp) (fun C hC => ?_)
  simp
  refine callS (first_ok) (by simp) ?_
  simp
  refine callS (gF) (by simp) ?_
  simp
  refine callNil ?_
  have z1 : nlV (specT s) = specT s := rfl
  have z2 : nlV (clT c) = clT c := rfl
  have z3 : nlV (probX firstS) = probX firstS := rfl
  simp [z1, z2, z3]
  refine callF gG (by simp [goodT, clT, s4, s1, s52, s17]) ?_
  simp
  refine callS (gC) (by simp) ?_
  simp
  have g2 := rNumbers_ok y hy
  rw [numX_eq] at g2
  have g3 := shorts2_ok y hy.n (fun i hi => hy.s _ (gt_mem hi))
  have g4 := claims_ok c hc
  have g5 := qClaim_ok c hc
  have cw := clW_of hc
  have ck : (clOf c).kind = c.kind := rfl
  have cv : (clOf c).value = num c.value := rfl
  generalize clOf c = m at *
  by_cases hf : fewB s = true
  · have gB := both_ok s h hf
    by_cases ho : okS s = true
    · rw [ho, probX_of ho] at gB
      have fw := few_of h
      have pw := probW_of s
      generalize probOf s = p at *
      refine callS (gB) (by simp) ?_
      simp
      refine callS (g2) (by simp) ?_
      simp
      refine callS (g4) (by simp) ?_
      simp
      refine callS (g3) (by simp) ?_
      simp
      refine callS (g5) (by simp) ?_
      simp
      refine fun c1 c2 c3 c4 => ?_
      have eX : numX y = (nums y).map qsv := by unfold numX; rw [if_pos c1]
      have hyw := wd_nums y
      rw [eX]
      by_cases hv : validC p = 0
      · refine callS (qCheck_ok p fw pw hv m cw) (by simp) ?_
        simp
        refine fun hk => ?_
        by_cases hl : (nums y).length = p.cols.length
        · refine callS (rHolds_ok p fw pw hv (nums y) hyw hl false) (by simp) ?_
          simp
          refine fun hh => ?_
          refine CodeJ.draw (.qs [0, 1, 2, 3, 4, 6] <| .l 5 [] <| .l 7 [] <| .qs [8] <| .nil) (by kernel_rfl) (by kernel_rfl) (by simp) ?_
          simp
          refine callS (qText_ok m.value (qok_of cw.v (by omega))) (by simp) ?_
          simp
          rcases sound hv hk hh with e | ⟨e, hb⟩
          · rw [← ck, e]
            refine callS (beat3_ok p (qtxt m.value) (nums y)) (by simp) ?_
            simp
          · rw [← ck, e]
            refine callS (beat1_ok p fw pw hv m.value cw.v (nums y) hyw hl hb) (by simp) ?_
            simp
        · refine callS (rHoldsNo_ok p (nums y) hl false) (by simp) ?_
          simp
      · refine callS (qCheckE_ok p fw hv m) (by simp) ?_
        rcases valid_cases p with e | e | e | e
        · exact absurd e hv
        · rw [e, erV_2]; simp
        · rw [e, erV_7]; simp
        · rw [e, erV_4]; simp
    · have ho' : okS s = false := by simpa using ho
      rw [ho'] at gB
      refine callS (gB) (by simp) ?_
      simp
      refine callS (g2) (by simp) ?_
      simp
      refine callS (g4) (by simp) ?_
      simp
      refine callS (g3) (by simp) ?_
      simp
      refine callS (g5) (by simp) ?_
      simp
  · have gB := bothNo_ok s h (by simpa using hf)
    refine callS (gB) (by simp) ?_
    simp
    refine callS (g2) (by simp) ?_
    simp
    refine callS (g4) (by simp) ?_
    simp
    refine callS (g3) (by simp) ?_
    simp
    refine callS (g5) (by simp) ?_
    simp
end Go.Proofs

