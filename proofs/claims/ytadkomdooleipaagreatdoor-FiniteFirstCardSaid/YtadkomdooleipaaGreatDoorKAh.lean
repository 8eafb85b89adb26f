/- Puzzles as symbolic values; what the small functions of lists of whole numbers return. A text of the prover's own. -/
import Derived.Test.YtadkomdooleipaaGreatDoorKAe
namespace Go.Fn
open Go Go.Sv Go.Pl Go.Proofs Go.Tb Go.Ut
def conV (c : Con) : SV := .agg ([iv c.kind, ilv c.vars, ilv c.nums, ilv c.uses, iv c.limit, .ro (c.rows.map ilv)])
@[simp] theorem conV_csz (c : Con) : (conV c).csz = 6 := rfl
@[simp] theorem conV_isTup (c : Con) : (conV c).isTup = false := rfl
@[simp] theorem conV_isAgg (c : Con) : (conV c).isAgg = true := rfl
@[simp] theorem conV_one (c : Con) : (conV c).one = false := rfl
@[simp] theorem conV_pure (c : Con) : (conV c).pure = true := rfl
@[simp] theorem conV_lt (n : Nat) (c : Con) : (conV c).lt n = true := rfl
@[simp] theorem conV_uses (n : Nat) (c : Con) : (conV c).uses n = false := rfl
@[simp] theorem conV_ks (c : Con) : (conV c).ks = [] := rfl
@[simp] theorem conV_f0 (c : Con) : lget (conV c).cells 0 = iv c.kind := rfl
@[simp] theorem conV_f1 (c : Con) : lget (conV c).cells 1 = ilv c.vars := rfl
@[simp] theorem conV_f2 (c : Con) : lget (conV c).cells 2 = ilv c.nums := rfl
@[simp] theorem conV_f3 (c : Con) : lget (conV c).cells 3 = ilv c.uses := rfl
@[simp] theorem conV_f4 (c : Con) : lget (conV c).cells 4 = iv c.limit := rfl
@[simp] theorem conV_f5 (c : Con) : lget (conV c).cells 5 = .ro (c.rows.map ilv) := rfl
theorem lget_conV {l : List _} {i : Nat} (h : i < l.length) : lget (l.map conV) i = conV (gt l i) := lget_m _ h
def puzV (p : Puz) : SV := .agg ([.ro (p.values.map ilv), .ro (p.cons.map conV)])
@[simp] theorem puzV_csz (p : Puz) : (puzV p).csz = 2 := rfl
@[simp] theorem puzV_isTup (p : Puz) : (puzV p).isTup = false := rfl
@[simp] theorem puzV_isAgg (p : Puz) : (puzV p).isAgg = true := rfl
@[simp] theorem puzV_one (p : Puz) : (puzV p).one = false := rfl
@[simp] theorem puzV_pure (p : Puz) : (puzV p).pure = true := rfl
@[simp] theorem puzV_lt (n : Nat) (p : Puz) : (puzV p).lt n = true := rfl
@[simp] theorem puzV_uses (n : Nat) (p : Puz) : (puzV p).uses n = false := rfl
@[simp] theorem puzV_ks (p : Puz) : (puzV p).ks = [] := rfl
@[simp] theorem puzV_f0 (p : Puz) : lget (puzV p).cells 0 = .ro (p.values.map ilv) := rfl
@[simp] theorem puzV_f1 (p : Puz) : lget (puzV p).cells 1 = .ro (p.cons.map conV) := rfl
@[simp] theorem okE_conV (l : List Con) : okE 6 (l.map conV) = True := by cases l <;> simp [okE]
end Go.Fn
namespace Go.Proofs
open Go.Sv Go Go.Tb Go.Pl Go.Ut Go.Fn
/-- from place i on: is v there? -/
def inFrom (l : List Int) (v : Int) (i : Nat) : Prop := ∀ j, j < i → gt l j ≠ v
theorem inFrom_step {l : List Int} {v : Int} {i : Nat} (h : inFrom l v i) (h' : gt l i ≠ v) : inFrom l v (i + 1) := step_lt h h'
theorem inFrom_end {l : List Int} {v : Int} (h : inFrom l v l.length) : v ∉ l := fun hm => by
  obtain ⟨i, hi, e⟩ := mem_gt hm
  exact h i hi e
set_option maxRecDepth 10000 in
theorem slIndex_ok (l : List Int) (hl : l.length ≤ 1000000) (v : Int) : PureC Tryz.prog 42 [.ro (l.map iv), iv v] (fun x => ∃ n : Int, x = iv n ∧ (0 ≤ n ↔ v ∈ l)) := by
  refine pure_enter Tryz.func42 rfl (by simp) (fun C hC => ?_)
  simp
  refine CodeJ.loop (ι := Nat) (fun i => ⟨19, [(0, .ro (l.map iv)), (1, iv v), (7, iv l.length), (8, iv i)], []⟩)
    (fun i => i ≤ l.length ∧ inFrom l v i) (fun i => l.length - i) 0 ?_ ?_ ?_
  · exact ⟨by omega, fun j hj => by omega⟩
  · simp [leS, hC]
  · rintro i ⟨hi, hf⟩
    by_cases hlt : i < l.length
    · simp (disch := omega) [hlt, lget_iv]
      repeat (refine And.intro (by omega) ?_)
      refine ⟨fun e => ?_, fun e => ?_⟩
      · refine ⟨_, by simp, i, rfl, ?_⟩
        exact ⟨fun _ => by rw [e]; exact gt_mem hlt, fun _ => by omega⟩
      · exact ⟨i + 1, ⟨by omega, inFrom_step hf fun q => e q.symm⟩, by omega, by simp (disch := omega) [leS, hC, w64]⟩
    · obtain rfl : i = l.length := by omega
      simp
      exact ⟨_, by simp, -1, rfl, ⟨fun h => by omega, fun h => absurd h (inFrom_end hf)⟩⟩
theorem slContains_ok (l : List Int) (hl : l.length ≤ 1000000) (v : Int) : PureF Tryz.prog 30 [.ro (l.map iv), iv v] (bov (decide (v ∈ l))) := by
  refine pure_enter Tryz.func30 rfl (by simp) (fun C hC => ?_)
  simp
  refine callP (slIndex_ok l hl v) (SubL_self _ _ (by simp)) (fun x hx => ?_)
  obtain ⟨n, rfl, hn⟩ := hx
  simp [hn]
set_option maxRecDepth 10000 in
theorem rIn_ok (l : List Int) (hl : l.length ≤ 1000000) (v : Int) : PureF Tryz.prog 40 [.ro (l.map iv), iv v] (bov (decide (v ∈ l))) := by
  refine pure_enter Tryz.func40 rfl (by simp) (fun C hC => ?_)
  simp
  refine CodeJ.loop (ι := Nat) (fun i => ⟨18, [(0, .ro (l.map iv)), (1, iv v), (5, iv i)], []⟩)
    (fun i => i ≤ l.length ∧ inFrom l v i) (fun i => l.length - i) 0 ?_ ?_ ?_
  · exact ⟨by omega, fun j hj => by omega⟩
  · simp [leS, hC]
  · rintro i ⟨hi, hf⟩
    by_cases hlt : i < l.length
    · simp (disch := omega) [hlt, lget_iv]
      repeat (refine And.intro (by omega) ?_)
      refine ⟨fun e => ?_, fun e => ?_⟩
      · rw [← e]; simp [gt_mem hlt]
      · exact ⟨i + 1, ⟨by omega, inFrom_step hf e⟩, by omega, by simp (disch := omega) [leS, hC, w64]⟩
    · obtain rfl : i = l.length := by omega
      simp [inFrom_end hf]
theorem rBig_ok (v : Int) : PureF Tryz.prog 16 [iv v] (bov (badN v)) := by
  refine pure_enter Tryz.func16 rfl (by simp) (fun C hC => ?_)
  simp [badN]
  by_cases h : 100000000 < v
  · simp [h]; omega
  · simp [h]
set_option maxRecDepth 10000 in
theorem rAnyBig_ok (l : List Int) (hl : l.length ≤ 1000000) : PureF Tryz.prog 25 [.ro (l.map iv)] (bov (l.any badN)) := by
  obtain ⟨b, hb⟩ : ∃ b, l.any badN = b := ⟨_, rfl⟩
  rw [hb]
  refine pure_enter Tryz.func25 rfl (by simp) (fun C hC => ?_)
  simp
  refine CodeJ.loop (ι := Nat) (fun i => ⟨17, [(0, .ro (l.map iv)), (3, iv i)], []⟩)
    (fun i => i ≤ l.length ∧ b = (l.drop i).any badN) (fun i => l.length - i) 0 ?_ ?_ ?_
  · simp [hb]
  · simp [leS, hC]
  · rintro i ⟨hi, hf⟩
    by_cases hlt : i < l.length
    · rw [drop_gt hlt, List.any_cons] at hf
      simp (disch := omega) [hlt, lget_iv]
      repeat (refine And.intro (by omega) ?_)
      refine callS (rBig_ok _) (by simp) ?_
      simp
      refine ⟨fun e => ?_, fun e => ?_⟩
      · rw [hf, e]; simp
      · rw [e, Bool.false_or] at hf
        exact ⟨i + 1, ⟨by omega, hf⟩, by omega, by simp (disch := omega) [leS, hC, w64]⟩
    · obtain rfl : i = l.length := by omega
      rw [List.drop_length] at hf
      simp [hf]
set_option maxRecDepth 10000 in
theorem slEqual_ok (a b : List Int) (hl : a.length ≤ 1000000) : PureF Tryz.prog 48 [.ro (a.map iv), .ro (b.map iv)] (bov (decide (a = b))) := by
  refine pure_enter Tryz.func48 rfl (by simp) (fun C hC => ?_)
  simp
  refine ⟨fun h => ?_, fun h => ?_⟩
  · have : a ≠ b := fun e => h (by rw [e])
    simp [this]
  · refine CodeJ.loop (ι := Nat) (fun i => ⟨26, [(0, .ro (a.map iv)), (1, .ro (b.map iv)), (12, iv a.length), (13, iv i)], []⟩)
      (fun i => i ≤ a.length ∧ ∀ j, j < i → gt a j = gt b j) (fun i => a.length - i) 0 ?_ ?_ ?_
    · exact ⟨by omega, fun j hj => by omega⟩
    · simp [leS, hC]
    · rintro i ⟨hi, hf⟩
      by_cases hlt : i < a.length
      · have hlt' : i < b.length := by omega
        simp (disch := omega) [hlt, hlt', lget_iv]
        repeat (refine And.intro (by omega) ?_)
        refine CodeJ.draw (.qs [0, 1, 2, 3, 4, 5, 6, 7, 8] <| .nil) (by kernel_rfl) (by kernel_rfl) (by simp) ?_
        simp (disch := omega) [hlt, hlt', lget_iv]
        repeat (refine And.intro (by omega) ?_)
        refine ⟨fun e => ?_, fun e => ?_⟩
        · have : a ≠ b := fun q => e (by rw [q])
          simp [this]
        · exact ⟨i + 1, ⟨by omega, step_lt hf e⟩, by omega, by simp (disch := omega) [leS, hC, w64]⟩
      · obtain rfl : i = a.length := by omega
        have : a = b := ext_gt' (by omega) hf
        simp [this]
end Go.Proofs

