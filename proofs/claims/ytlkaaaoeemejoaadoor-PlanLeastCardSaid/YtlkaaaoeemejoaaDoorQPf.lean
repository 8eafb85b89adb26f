/- What the law PlanSpans returns. A text of the prover's own. -/
import Derived.Test.YtlkaaaoeemejoaaDoorQPe
import Derived.Test.YtlkaaaoeemejoaaDoorQVf
import Derived.Test.YtlkaaaoeemejoaaDoorQDa
namespace Go.Proofs
open Go.Sv Go Go.Pn Go.RowKit
theorem fin_val {M : Tab} {v : Value} {Φ : SV → Prop} (h : Φ (.val v)) : Sv.fin M (.val v) Φ := ⟨.val v, by simp, h⟩
set_option maxRecDepth 20000 in
theorem coded3_ok {c : Nat} (hc : c ≤ 10) (n : Int) : PureE Tryd.prog 13 [eSV c, iz n] (fun x => x = .val (.bool (decide ((c : Int) = n)))) := by
  refine pureE_enter Tryd.func13 rfl (by simp) (fun C hC hX hE => ?_)
  refine CodeJ.go ?_
  by_cases h0 : c = 0
  · subst h0
    simp [eSV_0]
    refine callS codeN_ok (by simp) ?_
    simp
  · have cs := codeS_ok (j := c - 1) (by omega)
    have e : eSV c = .sen sent (gs (c - 1)) := by unfold eSV; rw [if_neg h0]
    rw [show c - 1 + 1 = c by omega] at cs
    rw [e]
    simp
    refine callE cs hE hX (by simp) (fun x hx => ?_)
    subst hx
    simp
def twoJobs : Plan := ⟨[⟨2, [], [1]⟩, ⟨1, [0], [1]⟩], [1]⟩
theorem jobs_ok : PureF Tryd.prog 9 [] (psv twoJobs) := by
  refine pure_enterW Tryd.func9 rfl (by simp) (fun C hC => ?_)
  simp
  refine ⟨_, (Le.nl _).trans ((Le.frz 1 rfl rfl).trans ((Le.frz 2 rfl rfl).trans ((Le.frz 3 rfl rfl).trans ((Le.frz 5 rfl rfl).trans (Le.frz 4 rfl rfl))))), ?_⟩
  simp [frzS, nlS, psv, jsv, twoJobs]
/-- a plan is not great -/
structure Few (p : Plan) : Prop where
  nj : p.jobs.length ≤ 9
  nc : p.caps.length ≤ 9
  nb : ∀ i, i < p.jobs.length → (jg p.jobs i).after.length ≤ 10 ∧ (jg p.jobs i).uses.length ≤ 10
theorem few_ok (p : Plan) (h1 : p.jobs.length ≤ 140737488351232) : PureC Tryd.prog 10 [psv p] (fun x => ∃ b : Bool, x = .val (.bool b) ∧ (b = true → Few p)) := by
  refine pure_enter Tryd.func10 rfl (by simp) (fun C hC => ?_)
  simp
  refine ⟨fun c1 => ⟨fun c2 => fin_val (.inl rfl), fun c2 => ?_⟩, fun c1 => fin_val (.inl rfl)⟩
  refine CodeJ.loop (ι := Nat × Int) (fun ⟨i, s⟩ => ⟨55, [(1, .ptr 0 0 0), (3, iz s), (4, .val (.int .i64 i))], [some ⟨2, [psv p], false⟩]⟩)
    (fun ⟨i, s⟩ => i ≤ p.jobs.length ∧ ∀ k, k < i → (jg p.jobs k).after.length ≤ 10 ∧ (jg p.jobs k).uses.length ≤ 10) (fun ⟨i, s⟩ => p.jobs.length - i) (0, 0) ?_ ?_ ?_
  · simp
  · simp [leS]
  · rintro ⟨i, s⟩ ⟨hi, hb⟩
    by_cases hlt : i < p.jobs.length
    · simp (disch := omega) [hlt, lget_jsv, w64]
      refine ⟨fun d1 => ⟨fun d2 => ⟨fun d3 => fin_val (.inl rfl), fun d3 => ?_⟩, fun d2 => fin_val (.inl rfl)⟩, fun d1 => fin_val (.inl rfl)⟩
      refine ⟨i + 1, ⟨by omega, fun k hk => ?_⟩, by omega, IntKind.i64.wrap (s + (jg p.jobs i).long), by simp [leS, hC]⟩
      rcases Nat.lt_or_ge k i with h | h
      · exact hb k h
      · obtain rfl : k = i := by omega
        exact ⟨by omega, by omega⟩
    · obtain rfl : i = p.jobs.length := by omega
      simp
      have hF : Few p := ⟨by omega, by omega, hb⟩
      refine ⟨fun _ => fin_val ?_, fun _ => fin_val (.inr ⟨rfl, hF⟩)⟩
      by_cases h : s ≤ 12
      · right; exact ⟨by simp [h], hF⟩
      · left; simp [h]
theorem vJob_le {caps : List Int} {i : Int} {j : Job} : vJob caps i j ≤ 4 := by
  unfold vJob
  split
  · omega
  · split
    · omega
    · split
      · omega
      · split <;> omega
theorem vJobs_le {caps : List Int} : ∀ {js : List Job} {i s : Int}, vJobs caps i s js ≤ 4
  | [], i, s => by simp only [vJobs]; split <;> omega
  | j :: js, i, s => by
    simp only [vJobs]
    split
    · exact vJobs_le
    · exact vJob_le
theorem pvalid_le (p : Plan) : pvalid p ≤ 4 := by
  unfold pvalid
  split
  · omega
  · split
    · omega
    · exact vJobs_le
theorem twoSpan : spanV twoJobs [0, 2] = .tup [iz 3, .val (.bool true), .val .nilIface] := by
  have h : pvalid twoJobs = 0 := by decide
  have e : spanR twoJobs [0, 2] = (3, true) := by decide
  unfold spanV
  rw [if_neg (by rw [h]; simp), if_neg (by decide), e]
set_option maxRecDepth 20000 in
theorem planSpans_ok (p : Plan) (ss : List Int) (h1 : p.jobs.length ≤ 140737488351232) (h2 : ss.length ≤ 140737488351232) :
    PureE Tryd.prog 3 [psv p, .ro (ss.map iz)] (fun x => x = .val (.bool true)) := by
  refine pureE_enter Tryd.func3 rfl (by simp) (fun C hC hX hE => ?_)
  refine CodeJ.go ?_
  simp
  refine callS jobs_ok (by simp) ?_
  simp
  have s0 := pSpan_ok twoJobs [0, 2] (by decide) (by decide) (by decide) (by decide)
  rw [twoSpan] at s0
  refine callF s0 (by simp) ?_
  simp
  refine callP (few_ok p h1) (by simp) ?_
  rintro x ⟨b, rfl, hb⟩
  cases b with
  | false => simp
  | true =>
    have hf := hb rfl
    have := hf.nj
    have := hf.nc
    simp
    intro c1
    have g0 := pSpan_ok p ss (by omega) (by omega) (by omega) (fun i hi => by have := hf.nb i hi; omega)
    have g1 := rValid_ok p (by omega) (by omega) (fun i hi => by have := hf.nb i hi; omega)
    have g2 := pValid_ok p (by omega) (by omega) (fun i hi => by have := hf.nb i hi; omega)
    have gc := pvalid_le p
    have g3 := coded3_ok (c := pvalid p) (by omega) (pvalid p)
    refine callF g0 (by simp) ?_
    by_cases v0 : pvalid p = 0
    · have hp := ok_of v0
      by_cases hl : ss.length = p.jobs.length
      · have g4 := rEnds_ok p hp ss hl
        have e := span_eq hp hl
        simp [spanV, v0, hl]
        refine callF g1 (by simp) ?_
        simp
        refine callF g2 (by simp) ?_
        simp
        refine callE g3 hE hX (by simp) (fun y hy => ?_)
        subst hy
        have hl' : (ss.length : Int) = p.jobs.length := by omega
        simp [v0, hl']
        refine callF g4 (by simp) ?_
        rw [e]
        simp
      · simp [spanV, v0, hl]
        refine callF g1 (by simp) ?_
        simp
        refine callF g2 (by simp) ?_
        simp
        refine callE g3 hE hX (by simp) (fun y hy => ?_)
        subst hy
        have hl' : ¬ (ss.length : Int) = p.jobs.length := by omega
        simp [v0, hl, hl']
        refine callE (coded3_ok (c := 4) (by omega) 4) hE hX (by simp) (fun y hy => ?_)
        subst hy
        simp
    · simp [spanV, v0]
      refine callF g1 (by simp) ?_
      simp
      refine callF g2 (by simp) ?_
      simp
      refine callE g3 hE hX (by simp) (fun y hy => ?_)
      subst hy
      have hpos : 0 < pvalid p := by omega
      simp [v0, hpos]
      refine callE g3 hE hX (by simp) (fun y hy => ?_)
      subst hy
      simp
end Go.Proofs
namespace Go.Pn
open Go Go.Sv
def intsT : Pt := .sl (.int .i64)
def jobT : Pt := .pair (.int .i64) (.pair intsT (.pair intsT .unit))
def planT : Pt := .pair (.sl jobT) (.pair intsT .unit)
def jobOf (x : jobT.T) : Job := ⟨x.1, x.2.1, x.2.2.1⟩
def planOf (x : planT.T) : Plan := ⟨List.map jobOf x.1, x.2.1⟩
theorem ints_sv (x : intsT.T) : intsT.sv x = .ro (List.map iz x) := rfl
theorem job_sv (x : jobT.T) : jobT.sv x = jsv (jobOf x) := rfl
theorem plan_sv (x : planT.T) : planT.sv x = psv (planOf x) := by
  have e : ∀ l : List jobT.T, List.map jsv (List.map jobOf l) = List.map (fun y => jobT.sv y) l := fun l => by rw [List.map_map]; rfl
  show SV.agg [.ro (List.map (fun y => jobT.sv y) x.1), .ro (List.map iz x.2.1)] = SV.agg [.ro (List.map jsv (List.map jobOf x.1)), .ro (List.map iz x.2.1)]
  exact congrArg (fun a => SV.agg [.ro a, .ro (List.map iz x.2.1)]) (e x.1).symm
theorem plan_len {x : planT.T} (h : planT.wf x) : (planOf x).jobs.length ≤ 140737488351232 := by
  obtain ⟨⟨h1, _⟩, _⟩ := h
  have e : ∀ l : List jobT.T, (List.map jobOf l).length = l.length := fun l => List.length_map ..
  exact Nat.le_trans (Nat.le_of_eq (e x.1)) (Nat.le_trans h1 (by decide))
theorem ints_len {x : intsT.T} (h : intsT.wf x) : List.length (α := Int) x ≤ 140737488351232 := by
  obtain ⟨h1, _⟩ := h
  exact Nat.le_trans h1 (by decide)
end Go.Pn
