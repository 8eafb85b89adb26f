/- What the law FiniteKeeps returns. A text of the prover's own. -/
import Derived.Test.YtadkomdooleipaaGreatDoorKAq
namespace Go.Fn
open Go Go.Sv Go.Pl Go.Proofs Go.Tb Go.Ut
def pw13 : Nat → Int
  | 0 => 1
  | i + 1 => pw13 i * 13
theorem pw13_le : ∀ i, i ≤ 6 → 1 ≤ pw13 i ∧ pw13 i ≤ 4826809
  | 0, _ | 1, _ | 2, _ | 3, _ | 4, _ | 5, _ | 6, _ => by decide
  | n + 7, h => by omega
/-- three variables that all differ -/
def dif : Puz := ⟨[[1, 2], [1, 2], [1, 2, 3]], [⟨1, [0, 1, 2], [], [], 0, []⟩]⟩
theorem dif_few : FewP dif where
  v := by decide
  c := by decide
  l := by decide
  k := by
    intro c hc
    simp [dif] at hc
    subst hc
    exact ⟨by decide, by decide, by decide, by decide, by decide⟩
theorem dif_0 : vPuz dif = 0 := by decide
theorem dif_ok : PuzOK dif := puz_ok dif_few dif_0
end Go.Fn
namespace Go.Proofs
open Go.Sv Go Go.Tb Go.Pl Go.Ut Go.Fn
theorem coded0_ok (n : Int) : PureE Tryz.prog 10 [.val .nilIface, .val (.int .i64 n)] (fun x => x = .val (.bool (decide (0 = n)))) := by
  refine pureE_enter Tryz.func10 rfl (by simp) (fun C hC hX hE => ?_)
  refine CodeJ.go ?_
  simp
  refine callS codeN_ok (by simp) ?_
  simp
/-- the number of what is wrong, and of no error -/
theorem codedV_ok (c : Nat) (hc : c ≤ 10) (n : Int) : PureE Tryz.prog 10 [erV c, .val (.int .i64 n)] (fun x => x = .val (.bool (decide ((c : Int) = n)))) := by
  by_cases h : c = 0
  · subst h; exact coded0_ok n
  · exact coded3_ok (by omega) hc n
set_option maxRecDepth 20000 in
theorem differ_ok : PureF Tryz.prog 5 [] (puzV dif) := by
  refine pure_enterW Tryz.func5 rfl (by simp) (fun C hC => ?_)
  simp
  refine ⟨_, (Le.frz 1 rfl (by simp)).trans <| (Le.frz 2 rfl (by simp)).trans <| (Le.frz 3 rfl (by simp)).trans <| (Le.frz 4 rfl (by simp [frzS, tset])).trans <| (Le.frz 5 rfl (by simp)).trans <| (Le.nl _).trans <| (Le.frz 6 rfl (by simp [frzS, tset])), ?_⟩
  simp [frzS, tset, nlS, nlF, dif]
  exact Sub_self _ _ rfl
/-- is it small? -/
def FewQ (p : Puz) (y : SV) : Prop := ∃ b : Bool, y = .val (.bool b) ∧ (b = true → FewP p)
theorem fewq_no {p : Puz} {M : Tab} : Sv.fin M (.val (.bool false)) (FewQ p) := ⟨_, by simp, false, rfl, fun h => by cases h⟩
set_option maxRecDepth 10000 in
theorem few_ok (p : Puz) : PureC Tryz.prog 7 [puzV p] (FewQ p) := by
  have l13 := fun (i : Nat) (hi : i ≤ 6) => pw13_le i hi
  refine pure_enterJ Tryz.func7 rfl (by simp) (fun C hC => ?_)
  refine CodeJ.seqI (CodeJ.regionI (OpsJ.go ?_))
  simp
  refine CodeJ.frz 0 rfl (by simp) ?_
  simp [frzS, tset]
  refine CodeJ.go ?_
  simp
  by_cases h1 : p.values.length ≤ 6
  · by_cases h2 : p.cons.length ≤ 8
    · have e1 : ¬ (6 : Int) < p.values.length := by omega
      have e2 : ¬ (8 : Int) < p.cons.length := by omega
      have f1 : (p.values.length : Int) ≤ 6 := by omega
      have f2 : (p.cons.length : Int) ≤ 8 := by omega
      simp [e1, e2, f1, f2]
      refine CodeJ.loop (ι := Nat × Int) (fun ⟨i, a⟩ => ⟨91, [(1, .rop (puzV p) 0), (3, iv a), (4, iv i)], []⟩)
        (fun ⟨i, a⟩ => i ≤ p.values.length ∧ 0 ≤ a ∧ a ≤ pw13 i ∧ ∀ j, j < i → (gt p.values j).length ≤ 12) (fun ⟨i, a⟩ => p.values.length - i) (0, 1) ?_ ?_ ?_
      · exact ⟨by omega, by omega, by decide, fun j hj => by omega⟩
      · simp [leS, hC]
      rintro ⟨i, a⟩ ⟨hi, ha, ha', hd⟩
      by_cases hlt : i < p.values.length
      · have lv := lget_ilv hlt
        have st := @step_lt (fun j => (gt p.values j).length ≤ 12) i hd
        have b1 := l13 i (by omega)
        have b2 : pw13 (i + 1) = pw13 i * 13 := rfl
        generalize gt p.values i = l at *
        simp (disch := omega) [hlt, lv]
        repeat (refine And.intro (by omega) ?_)
        refine ⟨fun q => fewq_no, fun q => ?_⟩
        have b3 := mul_between (a := a) (l := 0) (h := 13) (x := 1 + (l.length : Int)) (by omega) (by omega)
        simp (disch := omega) [w64]
        repeat (refine And.intro (by omega) ?_)
        exact ⟨i + 1, a * (1 + (l.length : Int)), ⟨by omega, by omega, by omega, st (by omega)⟩, by omega, by simp (disch := omega) [leS, hC, w64]⟩
      · obtain rfl : i = p.values.length := by omega
        have hv : ∀ l ∈ p.values, l.length ≤ 12 := fun l hl => by
          obtain ⟨j, hj, rfl⟩ := List.getElem_of_mem hl
          rw [gt_get hj]; exact hd j hj
        simp
        refine CodeJ.loopL (ι := Nat) (fun i => ⟨91, [(1, .rop (puzV p) 0), (3, iv a), (5, iv i)], []⟩)
          (fun i => i ≤ p.cons.length ∧ ∀ j, j < i → FewC (gt p.cons j)) (fun i => p.cons.length - i) 0 ?_ ?_ ?_
        · exact ⟨by omega, fun j hj => by omega⟩
        · simp [leS, hC]
        rintro i ⟨hi, hk⟩
        by_cases hlt : i < p.cons.length
        · have lc := lget_conV hlt
          have st := @step_lt (fun j => FewC (gt p.cons j)) i hk
          generalize gt p.cons i = c at *
          simp (disch := omega) [hlt, lc]
          repeat (refine And.intro (by omega) ?_)
          by_cases q : c.vars.length ≤ 8 ∧ c.nums.length ≤ 8 ∧ c.uses.length ≤ 8 ∧ c.rows.length ≤ 12
          · obtain ⟨q1, q2, q3, q4⟩ := q
            have a1 : ¬ (8 : Int) < c.vars.length := by omega
            have a2 : ¬ (8 : Int) < c.nums.length := by omega
            have a3 : ¬ (8 : Int) < c.uses.length := by omega
            have a4 : ¬ (12 : Int) < c.rows.length := by omega
            have c1 : (c.vars.length : Int) ≤ 8 := by omega
            have c2 : (c.nums.length : Int) ≤ 8 := by omega
            have c3 : (c.uses.length : Int) ≤ 8 := by omega
            have c4 : (c.rows.length : Int) ≤ 12 := by omega
            simp [a1, a2, a3, a4, c1, c2, c3, c4]
            refine CodeJ.loop (ι := Nat) (fun k => ⟨91, [(1, .rop (puzV p) 0), (3, iv a), (5, iv i), (6, .ptr 0 0 0), (7, iv k)], [some ⟨6, [conV c], false⟩]⟩)
              (fun k => k ≤ c.rows.length ∧ ∀ j, j < k → (gt c.rows j).length ≤ 8) (fun k => c.rows.length - k) 0 ?_ ?_ ?_
            · exact ⟨by omega, fun j hj => by omega⟩
            · simp [leS, hC]
            rintro k ⟨hk', hr⟩
            by_cases hkl : k < c.rows.length
            · have lr := lget_ilv hkl
              have st' := @step_lt (fun j => (gt c.rows j).length ≤ 8) k hr
              generalize gt c.rows k = r at *
              simp (disch := omega) [hkl, lr]
              repeat (refine And.intro (by omega) ?_)
              refine ⟨fun q => fewq_no, fun q => ?_⟩
              exact ⟨k + 1, ⟨by omega, st' (by omega)⟩, by omega, by simp (disch := omega) [leS, hC, w64]⟩
            · obtain rfl : k = c.rows.length := by omega
              simp
              refine ⟨i + 1, ⟨by omega, st ⟨q1, q2, q3, q4, fun r hr' => ?_⟩⟩, by omega, Le.syn (by simp (disch := omega) [leS, hC, w64])⟩
              obtain ⟨j, hj, rfl⟩ := List.getElem_of_mem hr'
              rw [gt_get hj]; exact hr j hj
          · refine ⟨fun q1 => ⟨fun q2 => ⟨fun q3 => ⟨fun q4 => fewq_no, fun q4 => ?_⟩, fun q3 => fewq_no⟩, fun q2 => fewq_no⟩, fun q1 => fewq_no⟩
            exact absurd ⟨by omega, by omega, by omega, by omega⟩ q
        · obtain rfl : i = p.cons.length := by omega
          simp
          refine ⟨.val (.bool (decide (a < 40000))), by simp, _, rfl, fun _ => ⟨h1, h2, hv, fun c hc => ?_⟩⟩
          obtain ⟨j, hj, rfl⟩ := List.getElem_of_mem hc
          rw [gt_get hj]; exact hk j hj
    · refine ⟨fun _ => ⟨fun _ => fewq_no, fun q => by omega⟩, fun _ => fewq_no⟩
  · refine ⟨fun q => by omega, fun _ => fewq_no⟩
end Go.Proofs

