/- Whether values keep a puzzle: both ways, whole; what FiniteKeeps returns. A text of the prover's own. -/
import Derived.Test.YtadkomdooleipaaGreatDoorKAp
namespace Go.Proofs
open Go.Sv Go Go.Tb Go.Pl Go.Ut Go.Fn
theorem bd_of {p : Puz} (hp : PuzOK p) {x : List Int} (hx : x.length = p.values.length) (hm : ∀ i, i < x.length → gt x i ∈ gt p.values i) : ∀ i, i < x.length → Bd8 (gt x i) := fun i hi => hp.val i (by omega) _ (hm i hi)
set_option maxRecDepth 10000 in
theorem rKeeps_ok (p : Puz) (hp : PuzOK p) (x : List Int) (hx : x.length = p.values.length) : PureC Tryz.prog 29 [puzV p, .ro (x.map iv)] (TB (KeepsP p x)) := by
  have h1 := hp.few.v
  have h2 := hp.few.c
  refine pure_enterJ Tryz.func29 rfl (by simp) (fun C hC => ?_)
  refine CodeJ.seqI (CodeJ.regionI (OpsJ.go ?_))
  simp
  refine CodeJ.frz 0 rfl (by simp) ?_
  simp [frzS, tset]
  refine CodeJ.go ?_
  simp
  refine CodeJ.loop (ι := Nat) (fun i => ⟨71, [(1, .ro (x.map iv)), (2, .rop (puzV p) 0), (5, iv i)], []⟩)
    (fun i => i ≤ x.length ∧ ∀ j, j < i → gt x j ∈ gt p.values j) (fun i => x.length - i) 0 ?_ ?_ ?_
  · exact ⟨by omega, fun j hj => by omega⟩
  · simp [leS, hC]
  rintro i ⟨hi, hd⟩
  by_cases hlt : i < x.length
  · have lx := lget_iv hlt
    have lv := lget_ilv (l := p.values) (i := i) (by omega)
    have hl := hp.few.l _ (gt_mem (show i < p.values.length by omega))
    have st := @step_lt (fun j => gt x j ∈ gt p.values j) i hd
    have no : gt x i ∉ gt p.values i → ¬ KeepsP p x := fun q h => q (h.mem i hlt)
    have g := rIn_ok (gt p.values i) (by omega) (gt x i)
    have b3 : i < p.values.length := by omega
    generalize gt p.values i = l at *
    simp (disch := omega) [hlt]
    repeat (refine And.intro (by omega) ?_)
    refine CodeJ.draw (.qs [0, 1, 2, 3, 4, 5, 6, 7, 8] <| .l 9 [] <| .qs [10] <| .nil) (by kernel_rfl) (by kernel_rfl) (by simp) ?_
    simp (disch := omega) [hlt, lx, lv, b3]
    repeat (refine And.intro (by omega) ?_)
    refine callS (g) (by simp) ?_
    simp
    refine ⟨fun q => ?_, fun q => ?_⟩
    · exact tb_mk ⟨fun h => (by cases h), fun h => absurd h (no q)⟩
    · exact ⟨i + 1, ⟨by omega, st q⟩, by omega, by simp (disch := omega) [leS, hC, w64]⟩
  obtain rfl : i = x.length := by omega
  have xb := bd_of hp hx hd
  simp
  refine CodeJ.loopL (ι := Nat) (fun i => ⟨71, [(1, .ro (x.map iv)), (2, .rop (puzV p) 0), (7, iv i)], []⟩)
    (fun i => i ≤ p.cons.length ∧ ∀ j, j < i → keptP (gt p.cons j) (argsOf (gt p.cons j) x)) (fun i => p.cons.length - i) 0 ?_ ?_ ?_
  · exact ⟨by omega, fun j hj => by omega⟩
  · simp [leS, hC]
  rintro i ⟨hi, hk⟩
  by_cases hlt : i < p.cons.length
  · have lc := lget_conV hlt
    have hc := hp.con _ (gt_mem hlt)
    have hf := hp.few.k _ (gt_mem hlt)
    have st := @step_lt (fun j => keptP (gt p.cons j) (argsOf (gt p.cons j) x)) i hk
    have no : ¬ keptP (gt p.cons i) (argsOf (gt p.cons i) x) → ¬ KeepsP p x := fun q h => q (h.con _ (gt_mem hlt))
    generalize gt p.cons i = c at *
    have al := args_len c x
    have ab := args_bd hc hx xb
    have ev : ∀ i, i < c.vars.length → gt (argsOf c x) i = gt x (gt c.vars i).toNat := fun i hi => gt_args hi
    have vi : ∀ i, i < c.vars.length → 0 ≤ gt c.vars i ∧ gt c.vars i < x.length := fun i hi => by rw [hx]; exact hc.va i hi
    have g := rkept_ok c hf hc (argsOf c x) al ab
    generalize argsOf c x = v at *
    have h8 := hf.v
    simp (disch := omega) [hlt]
    repeat (refine And.intro (by omega) ?_)
    refine CodeJ.nil 8 1 rfl ?_
    refine CodeJ.loop (ι := Nat × List Int) (fun ⟨k, w⟩ => ⟨71, [(1, .ro (x.map iv)), (2, .rop (puzV p) 0), (7, iv i), (8, .view 0 0 w.length), (9, iv k)], [some ⟨1, w.map iv, false⟩]⟩)
      (fun ⟨k, w⟩ => k ≤ c.vars.length ∧ w = v.take k ∧ w.length = k) (fun ⟨k, w⟩ => c.vars.length - k) (0, []) ?_ ?_ ?_
    · simp
    · simp [leS, hC]
    rintro ⟨k, w⟩ ⟨hk, hw, hwl⟩
    by_cases hkl : k < c.vars.length
    · have lv := lget_iv hkl
      have vi' := vi k hkl
      have lx := lget_iv (l := x) (i := (gt c.vars k).toNat) (by omega)
      have e1 := ev k hkl
      have tk : v.take (k + 1) = v.take k ++ [gt v k] := take_gt (by omega)
      rw [e1, ← hw] at tk
      simp (disch := omega) [hlt, lc, hkl, lv, lx, hwl]
      repeat (refine And.intro (by omega) ?_)
      exact ⟨⟨by simp [hC], by omega⟩, k + 1, w ++ [gt x (gt c.vars k).toNat], ⟨by omega, tk.symm, by simp [hwl]⟩, by omega, by simp (disch := omega) [leS, hC, w64, hwl]⟩
    · obtain rfl : k = c.vars.length := by omega
      have : w = v := by rw [hw, ← al, List.take_length]
      subst this
      simp (disch := omega) [hlt, lc]
      repeat (refine And.intro (by omega) ?_)
      refine callFz 0 rfl (by simp) ?_
      simp [tset]
      refine callP g (SubL_self _ _ (by simp)) (fun y hy => ?_)
      obtain ⟨b, rfl, hb⟩ := hy
      simp
      refine ⟨fun q => ?_, fun q => ?_⟩
      · exact tb_mk ⟨fun h => (by cases h), fun h => absurd h (no fun h' => by rw [hb.2 h'] at q; cases q)⟩
      · exact ⟨i + 1, ⟨by omega, st (hb.1 q)⟩, by omega, Le.syn (by simp (disch := omega) [leS, hC, w64])⟩
  obtain rfl : i = p.cons.length := by omega
  simp
  refine tb_mk ⟨fun _ => ⟨hd, fun c hc => ?_⟩, fun _ => rfl⟩
  obtain ⟨j, hj, rfl⟩ := List.getElem_of_mem hc
  rw [gt_get hj]; exact hk j hj
/-- a truth, and no error -/
def TBN (P : Prop) (y : SV) : Prop := ∃ b : Bool, y = .tup [.val (.bool b), .val .nilIface] ∧ (b = true ↔ P)
theorem tbn_mk {M : Tab} {b : Bool} {P : Prop} (h : b = true ↔ P) : Sv.fin M (.tup [.val (.bool b), .val .nilIface]) (TBN P) := ⟨_, by simp, b, rfl, h⟩
set_option maxRecDepth 10000 in
theorem qKeeps_ok (p : Puz) (hp : PuzOK p) (h0 : vPuz p = 0) (x : List Int) (hx : x.length = p.values.length) : PureC Tryz.prog 23 [puzV p, .ro (x.map iv)] (TBN (KeepsP p x)) := by
  have h1 := hp.few.v
  have h2 := hp.few.c
  have gv := qValid_ok p hp.few
  rw [h0, erV_0] at gv
  have hx' : (x.length : Int) = p.values.length := by omega
  refine pure_enterJ Tryz.func23 rfl (by simp) (fun C hC => ?_)
  refine CodeJ.seqI (CodeJ.regionI (OpsJ.go ?_))
  simp
  refine CodeJ.frz 0 rfl (by simp) ?_
  simp [frzS, tset]
  refine CodeJ.go ?_
  simp
  refine callS (gv) (by simp) ?_
  simp [hx']
  refine CodeJ.loop (ι := Nat) (fun i => ⟨51, [(1, .ro (x.map iv)), (2, .rop (puzV p) 0), (23, .ro (x.map iv)), (24, iv x.length), (25, iv i)], []⟩)
    (fun i => i ≤ x.length ∧ ∀ j, j < i → gt x j ∈ gt p.values j) (fun i => x.length - i) 0 ?_ ?_ ?_
  · exact ⟨by omega, fun j hj => by omega⟩
  · simp [leS, hC, hx']
  rintro i ⟨hi, hd⟩
  by_cases hlt : i < x.length
  · have lx := lget_iv hlt
    have lv := lget_ilv (l := p.values) (i := i) (by omega)
    have hl := hp.few.l _ (gt_mem (show i < p.values.length by omega))
    have st := @step_lt (fun j => gt x j ∈ gt p.values j) i hd
    have no : gt x i ∉ gt p.values i → ¬ KeepsP p x := fun q h => q (h.mem i hlt)
    have g := slContains_ok (gt p.values i) (by omega) (gt x i)
    have b3 : i < p.values.length := by omega
    generalize gt p.values i = l at *
    simp (disch := omega) [hlt, lx, lv, b3]
    repeat (refine And.intro (by omega) ?_)
    refine callS (g) (by simp) ?_
    simp
    refine ⟨fun q => ?_, fun q => ?_⟩
    · exact tbn_mk ⟨fun h => (by cases h), fun h => absurd h (no q)⟩
    · exact ⟨i + 1, ⟨by omega, st q⟩, by omega, by simp (disch := omega) [leS, hC, w64]⟩
  obtain rfl : i = x.length := by omega
  have xb := bd_of hp hx hd
  simp
  refine CodeJ.loopL (ι := Nat) (fun i => ⟨51, [(1, .ro (x.map iv)), (2, .rop (puzV p) 0), (40, .ro (p.cons.map conV)), (41, iv p.cons.length), (42, iv i)], []⟩)
    (fun i => i ≤ p.cons.length ∧ ∀ j, j < i → keptP (gt p.cons j) (argsOf (gt p.cons j) x)) (fun i => p.cons.length - i) 0 ?_ ?_ ?_
  · exact ⟨by omega, fun j hj => by omega⟩
  · simp [leS, hC]
  rintro i ⟨hi, hk⟩
  by_cases hlt : i < p.cons.length
  · have lc := lget_conV hlt
    have hc := hp.con _ (gt_mem hlt)
    have hf := hp.few.k _ (gt_mem hlt)
    have st := @step_lt (fun j => keptP (gt p.cons j) (argsOf (gt p.cons j) x)) i hk
    have no : ¬ keptP (gt p.cons i) (argsOf (gt p.cons i) x) → ¬ KeepsP p x := fun q h => q (h.con _ (gt_mem hlt))
    generalize gt p.cons i = c at *
    have g := qkeeps_ok c hf hc x hx xb
    simp (disch := omega) [hlt, lc]
    repeat (refine And.intro (by omega) ?_)
    refine callP g (SubL_self _ _ (by simp)) (fun y hy => ?_)
    obtain ⟨b, rfl, hb⟩ := hy
    simp
    refine ⟨fun q => ?_, fun q => ?_⟩
    · exact tbn_mk ⟨fun h => (by cases h), fun h => absurd h (no fun h' => by rw [hb.2 h'] at q; cases q)⟩
    · exact ⟨i + 1, ⟨by omega, st (hb.1 q)⟩, by omega, Le.syn (by simp (disch := omega) [leS, hC, w64])⟩
  obtain rfl : i = p.cons.length := by omega
  simp
  refine tbn_mk ⟨fun _ => ⟨hd, fun c hc => ?_⟩, fun _ => rfl⟩
  obtain ⟨j, hj, rfl⟩ := List.getElem_of_mem hc
  rw [gt_get hj]; exact hk j hj
end Go.Proofs

