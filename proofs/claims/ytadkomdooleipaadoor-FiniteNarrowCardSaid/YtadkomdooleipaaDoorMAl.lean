/- Whether a puzzle is one: the program's way, whole. A text of the prover's own. -/
import Derived.Test.YtadkomdooleipaaDoorMAj
namespace Go.Proofs
open Go.Sv Go Go.Tb Go.Pl Go.Ut Go.Fn
set_option maxRecDepth 10000 in
set_option maxHeartbeats 2000000 in
theorem qValid_ok (p : Puz) (h : FewP p) : PureF Tryd.prog 15 [puzV p] (erV (vPuz p)) := by
  have h1 := h.v
  have h2 := h.c
  have e1 : ¬ (60 : Int) < p.values.length := by omega
  have e2 : ¬ (100 : Int) < p.cons.length := by omega
  have f1 : (p.values.length : Int) ≤ 60 := by omega
  have f2 : (p.cons.length : Int) ≤ 100 := by omega
  have hb : (if vLs p.values = 0 then vCs p.values.length p.cons else vLs p.values) = vPuz p := rfl
  generalize vPuz p = b at *
  refine pure_enter Tryd.func15 rfl (by simp) (fun C hC => ?_)
  simp [e1, e2, f1, f2]
  refine CodeJ.frz 0 rfl (by simp) ?_
  simp [frzS, tset]
  refine CodeJ.loop (ι := Nat) (fun i => ⟨74, [(1, .rop (puzV p) 0), (22, .ro (p.values.map ilv)), (23, iv p.values.length), (24, iv i)], []⟩)
    (fun i => i ≤ p.values.length ∧ vLs p.values = vLs (p.values.drop i)) (fun i => p.values.length - i) 0 ?_ ?_ ?_
  · simp
  · simp [leS, hC]
  rintro i ⟨hi, hv⟩
  by_cases hlt : i < p.values.length
  · have hl := h.l _ (gt_mem hlt)
    have lv := lget_ilv hlt
    rw [drop_gt hlt] at hv
    simp only [vLs] at hv
    generalize gt p.values i = l at *
    have e5 : ¬ (200 : Int) < l.length := by omega
    have e6 : (l.length : Int) ≤ 200 := by omega
    simp (disch := omega) [hlt, lv, e5, e6]
    repeat (refine And.intro (by omega) ?_)
    refine CodeJ.loop (ι := Nat) (fun k => ⟨74, [(1, .rop (puzV p) 0), (22, .ro (p.values.map ilv)), (23, iv p.values.length), (24, iv i), (4, ilv l), (32, ilv l), (33, iv l.length), (34, iv k)], []⟩)
      (fun k => k ≤ l.length ∧ vL none l = vL (prevO l k) (l.drop k)) (fun k => l.length - k) 0 ?_ ?_ ?_
    · simp [prevO]
    · simp [leS, hC]
    rintro k ⟨hk, hw⟩
    by_cases hkl : k < l.length
    · have lk := lget_iv hkl
      rw [drop_gt hkl] at hw
      have lp : 0 < k → lget (l.map iv) (k - 1) = iv (gt l (k - 1)) := fun q => lget_iv (by omega)
      have two : badN (gt l k) = true → erV b = erV 2 := fun q => by
        simp only [vL, q, if_true] at hw
        rw [hw] at hv
        rw [← hb, hv]; rfl
      simp (disch := omega) [hkl, lk]
      repeat (refine And.intro (by omega) ?_)
      have cont : badN (gt l k) = false → vL none l = match prevO l k with | none => vL (some (gt l k)) (l.drop (k + 1)) | some q => if gt l k ≤ q then 4 else vL (some (gt l k)) (l.drop (k + 1)) := fun q => by
        rw [hw]; simp only [vL, q]; rfl
      unfold badN at two cont
      refine ⟨fun q => ⟨fun q' => ?_, fun q' => ?_⟩, fun q => ?_⟩
      · rw [two (by simp; omega), erV_2]
      · have c1 := cont (by simp; omega)
        by_cases k0 : k = 0
        · subst k0
          simp (disch := omega) [w64]
          repeat (refine And.intro (by omega) ?_)
          exact ⟨0 + 1, ⟨by omega, by simpa [prevO] using c1⟩, by omega, by simp (disch := omega) [leS, hC, w64]⟩
        · have kp : 0 < (k : Int) := by omega
          have e7 : ¬ (k : Int) ≤ 0 := by omega
          have e8 : ((k : Int) - 1).toNat = k - 1 := by omega
          rw [show prevO l k = some (gt l (k - 1)) by cases k with | zero => omega | succ k => rfl] at c1
          simp only at c1
          simp (disch := omega) [kp, e7, hkl, lk, w64, e8, lp]
          repeat (refine And.intro (by omega) ?_)
          refine ⟨fun _ => ⟨by omega, fun q' => ?_, fun q' => ?_⟩, fun q' => absurd q' k0⟩
          · rw [if_pos q'] at c1
            rw [c1] at hv
            rw [← hb, hv]; rfl
          · rw [if_neg (by omega)] at c1
            exact ⟨k + 1, ⟨by omega, c1⟩, by omega, by simp (disch := omega) [leS, hC, w64]⟩
      · rw [two (by simp; omega), erV_2]
    · obtain rfl : k = l.length := by omega
      rw [List.drop_length] at hw
      simp only [vL] at hw
      rw [hw, if_pos rfl] at hv
      simp
      exact ⟨i + 1, ⟨by omega, hv⟩, by omega, by simp (disch := omega) [leS, hC, w64]⟩
  · obtain rfl : i = p.values.length := by omega
    rw [List.drop_length] at hv
    simp only [vLs] at hv
    rw [hv, if_pos rfl] at hb
    simp
    refine CodeJ.loop (ι := Nat) (fun i => ⟨74, [(1, .rop (puzV p) 0), (61, .ro (p.cons.map conV)), (62, iv p.cons.length), (63, iv i)], []⟩)
      (fun i => i ≤ p.cons.length ∧ vCs p.values.length p.cons = vCs p.values.length (p.cons.drop i)) (fun i => p.cons.length - i) 0 ?_ ?_ ?_
    · simp
    · simp [leS, hC]
    rintro i ⟨hi, hw⟩
    by_cases hlt : i < p.cons.length
    · have g := qvalid_ok p h1 _ (h.k _ (gt_mem hlt))
      have lc := lget_conV hlt
      rw [drop_gt hlt] at hw
      simp only [vCs] at hw
      have cs := vC_cases p.values.length (gt p.cons i)
      generalize vC p.values.length (gt p.cons i) = v at *
      generalize gt p.cons i = c at *
      simp (disch := omega) [hlt, lc]
      repeat (refine And.intro (by omega) ?_)
      refine callS (g) (by simp) ?_
      rcases cs with e | e | e <;> subst e
      · simp [erV_0]
        exact ⟨i + 1, ⟨by omega, by simpa using hw⟩, by omega, by simp (disch := omega) [leS, hC, w64]⟩
      · simp [erV_2]
        rw [← hb, hw]; simp [erV_2]
      · simp [erV_4]
        rw [← hb, hw]; simp [erV_4]
    · obtain rfl : i = p.cons.length := by omega
      rw [List.drop_length] at hw
      simp only [vCs] at hw
      simp
      rw [← hb, hw]; simp [erV_0]
end Go.Proofs

