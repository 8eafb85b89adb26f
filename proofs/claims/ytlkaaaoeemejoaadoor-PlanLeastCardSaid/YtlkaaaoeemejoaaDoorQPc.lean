/- Plans as symbolic values; what the functions Valid of package plan and PlanValid of the document return. A text of the prover's own. -/
import Derived.Test.YtlkaaaoeemejoaaDoorQEs
import Derived.Test.YtlkaaaoeemejoaaDoorQPb
namespace Go.Pn
open Go Go.Sv
def iz (n : Int) : SV := .val (.int .i64 n)
@[simp] theorem iz_val (n : Int) : iz n = .val (.int .i64 n) := rfl
def jsv (j : Job) : SV := .agg [iz j.long, .ro (j.after.map iz), .ro (j.uses.map iz)]
def psv (p : Plan) : SV := .agg [.ro (p.jobs.map jsv), .ro (p.caps.map iz)]
@[simp] theorem jsv_cells (j : Job) : (jsv j).cells = [iz j.long, .ro (j.after.map iz), .ro (j.uses.map iz)] := rfl
@[simp] theorem jsv_csz (j : Job) : (jsv j).csz = 3 := rfl
@[simp] theorem jsv_isTup (j : Job) : (jsv j).isTup = false := rfl
@[simp] theorem jsv_isAgg (j : Job) : (jsv j).isAgg = true := rfl
@[simp] theorem jsv_pure (j : Job) : (jsv j).pure = true := rfl
@[simp] theorem jsv_lt (n : Nat) (j : Job) : (jsv j).lt n = true := rfl
@[simp] theorem jsv_uses (n : Nat) (j : Job) : (jsv j).uses n = false := rfl
@[simp] theorem jsv_ks (j : Job) : (jsv j).ks = [] := rfl
@[simp] theorem psv_cells (p : Plan) : (psv p).cells = [.ro (p.jobs.map jsv), .ro (p.caps.map iz)] := rfl
@[simp] theorem psv_csz (p : Plan) : (psv p).csz = 2 := rfl
@[simp] theorem psv_isTup (p : Plan) : (psv p).isTup = false := rfl
@[simp] theorem psv_isAgg (p : Plan) : (psv p).isAgg = true := rfl
@[simp] theorem psv_pure (p : Plan) : (psv p).pure = true := rfl
@[simp] theorem psv_lt (n : Nat) (p : Plan) : (psv p).lt n = true := rfl
@[simp] theorem psv_uses (n : Nat) (p : Plan) : (psv p).uses n = false := rfl
@[simp] theorem psv_ks (p : Plan) : (psv p).ks = [] := rfl
@[simp] theorem Sub_jsv (M : Tab) (j : Job) : Sv.Sub M (jsv j) (jsv j) = True := eq_true (Sub_self M _ rfl)
@[simp] theorem Sub_psv (M : Tab) (p : Plan) : Sv.Sub M (psv p) (psv p) = True := eq_true (Sub_self M _ rfl)
theorem lget_iz {l : List Int} {i : Nat} (h : i < l.length) : lget (l.map iz) i = iz (ig l i) := by
  rw [lget_eq (by simpa using h), ig_eq h]; simp
theorem lget_jsv {l : List Job} {i : Nat} (h : i < l.length) : lget (l.map jsv) i = jsv (jg l i) := by
  rw [lget_eq (by simpa using h), jg_eq h]; simp
@[simp] theorem okE_iz (l : List Int) : okE 1 (l.map iz) = True := by cases l <;> simp [okE]
@[simp] theorem okE_jsv (l : List Job) : okE 3 (l.map jsv) = True := by cases l <;> simp [okE]
@[simp] theorem ltL_iz (n : Nat) (l : List Int) : SV.ltL n (l.map iz) = true := by simp [ltL_map, SV.lt]
@[simp] theorem pureL_iz (l : List Int) : SV.pureL (l.map iz) = true := by simp [pureL_map, SV.pure]
@[simp] theorem usesL_iz (n : Nat) (l : List Int) : SV.usesL n (l.map iz) = false := by simp [usesL_map, SV.uses]
/-- an error by its number; 0: none -/
def eSV (c : Nat) : SV := if c = 0 then .val .nilIface else .sen sent (Go.Proofs.gs (c - 1))
@[simp] theorem eSV_neq {c s b z} : evNilEq .neq (some ⟨.iface, s, b, z⟩) (some (eSV c)) = .q True (.bool (decide (c ≠ 0))) := by
  unfold eSV; split <;> simp [*]
@[simp] theorem eSV_eql {c s b z} : evNilEq .eql (some ⟨.iface, s, b, z⟩) (some (eSV c)) = .q True (.bool (decide (c = 0))) := by
  unfold eSV; split <;> simp [*]
@[simp] theorem eSV_csz (c : Nat) : (eSV c).csz = 1 := by unfold eSV; split <;> rfl
@[simp] theorem eSV_isTup (c : Nat) : (eSV c).isTup = false := by unfold eSV; split <;> rfl
@[simp] theorem eSV_isAgg (c : Nat) : (eSV c).isAgg = false := by unfold eSV; split <;> rfl
@[simp] theorem eSV_one (c : Nat) : (eSV c).one = true := by unfold eSV; split <;> rfl
@[simp] theorem eSV_pure (c : Nat) : (eSV c).pure = true := by unfold eSV; split <;> rfl
@[simp] theorem eSV_lt (n c : Nat) : (eSV c).lt n = true := by unfold eSV; split <;> rfl
@[simp] theorem eSV_uses (k c : Nat) : (eSV c).uses k = false := by unfold eSV; split <;> rfl
@[simp] theorem eSV_ks (c : Nat) : (eSV c).ks = [] := by unfold eSV; split <;> rfl
@[simp] theorem eSV_cells (c : Nat) : (eSV c).cells = [eSV c] := by unfold eSV; split <;> rfl
@[simp] theorem Sub_eSV (M : Tab) (c : Nat) : Sv.Sub M (eSV c) (eSV c) = True := by unfold eSV; split <;> simp
theorem eSV_0 : eSV 0 = .val .nilIface := rfl
theorem eSV_2 : eSV 2 = .sen sent 1 := rfl
theorem eSV_4 : eSV 4 = .sen sent 0 := rfl
end Go.Pn
namespace Go.Proofs
open Go.Sv Go Go.Pn
theorem valid_bound {p : Plan} (h : 7 < p.jobs.length ∨ 7 < p.caps.length) : pvalid p = 2 := by unfold pvalid; rw [if_pos h]
theorem valid_cap {p : Plan} (h1 : p.jobs.length ≤ 7) (h2 : p.caps.length ≤ 7) (h : badCap p.caps = true) : pvalid p = 2 := by unfold pvalid; rw [if_neg (by omega), if_pos h]
theorem valid_jobs {p : Plan} (h1 : p.jobs.length ≤ 7) (h2 : p.caps.length ≤ 7) (h : badCap p.caps = false) : pvalid p = vJobs p.caps 0 0 p.jobs := by unfold pvalid; rw [if_neg (by omega), if_neg (by simp [h])]
theorem badCap_drop {l : List Int} {i : Nat} (h : i < l.length) : badCap (l.drop i) = (decide (ig l i < 0) || decide (100000000 < ig l i) || badCap (l.drop (i + 1))) := by
  rw [ig_drop h]; rfl
theorem badAft_drop {n : Int} {l : List Int} {i : Nat} (h : i < l.length) : badAft n (l.drop i) = (decide (ig l i < 0) || decide (n ≤ ig l i) || badAft n (l.drop (i + 1))) := by
  rw [ig_drop h]; rfl
theorem badUse_drop {l m : List Int} {i : Nat} (h : i < l.length) (h' : i < m.length) : badUse (l.drop i) (m.drop i) = (decide (ig l i < 0) || decide (ig m i < ig l i) || badUse (l.drop (i + 1)) (m.drop (i + 1))) := by
  rw [ig_drop h, ig_drop h']; rfl
theorem vJob_1 {caps : List Int} {i : Int} {j : Job} (h : j.long < 0 ∨ 30 < j.long ∨ 7 < j.after.length) : vJob caps i j = 2 := by unfold vJob; rw [if_pos h]
theorem vJob_2 {caps : List Int} {i : Int} {j : Job} (h : ¬ (j.long < 0 ∨ 30 < j.long ∨ 7 < j.after.length)) (h2 : j.uses.length ≠ caps.length) : vJob caps i j = 4 := by unfold vJob; rw [if_neg h, if_pos h2]
theorem vJob_3 {caps : List Int} {i : Int} {j : Job} (h : ¬ (j.long < 0 ∨ 30 < j.long ∨ 7 < j.after.length)) (h2 : j.uses.length = caps.length) (h3 : badUse j.uses caps = true) : vJob caps i j = 4 := by unfold vJob; rw [if_neg h, if_neg (by omega), if_pos h3]
theorem vJob_4 {caps : List Int} {i : Int} {j : Job} (h : ¬ (j.long < 0 ∨ 30 < j.long ∨ 7 < j.after.length)) (h2 : j.uses.length = caps.length) (h3 : badUse j.uses caps = false) (h4 : badAft i j.after = true) : vJob caps i j = 4 := by unfold vJob; rw [if_neg h, if_neg (by omega), if_neg (by simp [h3]), if_pos h4]
theorem vJob_5 {caps : List Int} {i : Int} {j : Job} (h : ¬ (j.long < 0 ∨ 30 < j.long ∨ 7 < j.after.length)) (h2 : j.uses.length = caps.length) (h3 : badUse j.uses caps = false) (h4 : badAft i j.after = false) : vJob caps i j = 0 := by unfold vJob; rw [if_neg h, if_neg (by omega), if_neg (by simp [h3]), if_neg (by simp [h4])]
theorem vJobs_drop {caps : List Int} {i s : Int} {js : List Job} {k : Nat} (h : k < js.length) : vJobs caps i s (js.drop k) = if vJob caps i (jg js k) = 0 then vJobs caps (i + 1) (s + (jg js k).long) (js.drop (k + 1)) else vJob caps i (jg js k) := by
  rw [jg_drop h]; rfl
set_option maxRecDepth 10000 in
theorem pValid_ok (p : Plan) (h1 : p.jobs.length ≤ 4398046511104) (h2 : p.caps.length ≤ 4398046511104) (h3 : ∀ i, i < p.jobs.length → (jg p.jobs i).after.length ≤ 4398046511104 ∧ (jg p.jobs i).uses.length ≤ 4398046511104) : PureF Tryd.prog 12 [psv p] (eSV (pvalid p)) := by
  refine pure_enter Tryd.func12 rfl (by simp) (fun C hC => ?_)
  simp
  refine ⟨fun h7 => ⟨fun hc => by rw [valid_bound (by omega)]; rfl, fun hc => ?_⟩, fun h7 => by rw [valid_bound (by omega)]; rfl⟩
  refine CodeJ.loop (ι := Nat) (fun i => ⟨114, [(1, .ptr 0 0 0), (2, .val .nilIface), (24, .ro (p.caps.map iz)), (25, .val (.int .i64 p.caps.length)), (26, .val (.int .i64 i))], [some ⟨2, [psv p], false⟩]⟩)
    (fun i => i ≤ p.caps.length ∧ badCap (p.caps.drop i) = badCap p.caps) (fun i => p.caps.length - i) 0 ?_ ?_ ?_
  · simp
  · simp [leS]
  · rintro i ⟨hi, hb⟩
    by_cases hlt : i < p.caps.length
    · rw [badCap_drop hlt] at hb
      simp (disch := omega) [hlt, lget_iz, w64]
      refine ⟨fun h0 => ⟨fun hc => ?_, fun hc => ?_⟩, fun h0 => ?_⟩
      · simp [hc] at hb
        rw [valid_cap (by omega) (by omega) hb]; rfl
      · have e1 : ¬ ig p.caps i < 0 := by omega
        have e2 : ¬ 100000000 < ig p.caps i := by omega
        simp [e1, e2] at hb
        exact ⟨i + 1, ⟨by omega, hb⟩, by omega, by simp [leS, hC]⟩
      · simp [h0] at hb
        rw [valid_cap (by omega) (by omega) hb]; rfl
    · obtain rfl : i = p.caps.length := by omega
      rw [List.drop_length] at hb
      have hv := valid_jobs (p := p) (by omega) (by omega) hb.symm
      clear hb
      simp
      refine CodeJ.loop (ι := Nat × Int) (fun ⟨i, s⟩ => ⟨114, [(1, .ptr 0 0 0), (2, .val .nilIface), (5, .val (.int .i64 s)), (39, .ro (p.jobs.map jsv)), (40, .val (.int .i64 p.jobs.length)), (41, .val (.int .i64 i))], [some ⟨2, [psv p], false⟩]⟩)
        (fun ⟨i, s⟩ => i ≤ p.jobs.length ∧ 0 ≤ s ∧ s ≤ 30 * i ∧ vJobs p.caps i s (p.jobs.drop i) = pvalid p) (fun ⟨i, s⟩ => p.jobs.length - i) (0, 0) ?_ ?_ ?_
      · simp [hv]
      · simp [leS]
      · rintro ⟨i, s⟩ ⟨hi, hs0, hs, hb⟩
        by_cases hlt : i < p.jobs.length
        · rw [vJobs_drop hlt] at hb
          obtain ⟨g1, g2⟩ := h3 i hlt
          simp (disch := omega) [hlt, lget_iz, lget_jsv, w64]
          generalize jg p.jobs i = j at *
          have bad : ∀ c, vJob p.caps i j = c → c ≠ 0 → pvalid p = c := fun c e1 e2 => by rw [← hb, if_neg (by rw [e1]; exact e2), e1]
          by_cases q1 : j.long < 0 ∨ 30 < j.long ∨ 7 < j.after.length
          · rw [bad 2 (vJob_1 q1) (by omega)]
            refine ⟨fun a1 => ⟨fun a2 => ⟨fun _ => rfl, fun a3 => by omega⟩, fun _ => rfl⟩, fun _ => rfl⟩
          · refine ⟨fun a1 => ⟨fun a2 => ⟨fun _ => by omega, fun a3 => ⟨fun a4 => ?_, fun a4 => ?_⟩⟩, fun _ => by omega⟩, fun _ => by omega⟩
            · rw [bad 4 (vJob_2 q1 (by omega)) (by omega)]; rfl
            · have q2 : j.uses.length = p.caps.length := by omega
              rw [w64 _ (by omega)]
              refine CodeJ.loop (ι := Nat) (fun k => ⟨114, [(1, .ptr 0 0 0), (2, .val .nilIface), (5, .val (.int .i64 (s + j.long))), (6, .val (.int .i64 i)), (7, .ptr 1 0 0), (39, .ro (p.jobs.map jsv)), (40, .val (.int .i64 p.jobs.length)), (41, .val (.int .i64 i)), (74, .ro (j.uses.map iz)), (75, .val (.int .i64 j.uses.length)), (76, .val (.int .i64 k))],
                  [some ⟨2, [psv p], false⟩, some ⟨3, [jsv j], false⟩]⟩)
                (fun k => k ≤ j.uses.length ∧ badUse (j.uses.drop k) (p.caps.drop k) = badUse j.uses p.caps) (fun k => j.uses.length - k) 0 ?_ ?_ ?_
              · simp
              · simp [leS]
              · rintro k ⟨hk, hu⟩
                by_cases hkl : k < j.uses.length
                · rw [badUse_drop hkl (by omega)] at hu
                  simp (disch := omega) [hkl, lget_iz, w64]
                  refine ⟨fun b1 => ⟨by omega, fun b2 => ?_, fun b2 => ?_⟩, fun b1 => ?_⟩
                  · simp [b2] at hu
                    rw [bad 4 (vJob_3 q1 q2 hu) (by omega)]; rfl
                  · have e1 : ¬ ig j.uses k < 0 := by omega
                    have e2 : ¬ ig p.caps k < ig j.uses k := by omega
                    simp [e1, e2] at hu
                    exact ⟨k + 1, ⟨by omega, hu⟩, by omega, by simp [leS, hC]⟩
                  · simp [b1] at hu
                    rw [bad 4 (vJob_3 q1 q2 hu) (by omega)]; rfl
                · obtain rfl : k = j.uses.length := by omega
                  rw [List.drop_length] at hu
                  have q3 : badUse j.uses p.caps = false := hu.symm
                  clear hu
                  simp
                  refine CodeJ.loop (ι := Nat) (fun k => ⟨114, [(1, .ptr 0 0 0), (2, .val .nilIface), (5, .val (.int .i64 (s + j.long))), (6, .val (.int .i64 i)), (39, .ro (p.jobs.map jsv)), (40, .val (.int .i64 p.jobs.length)), (41, .val (.int .i64 i)), (95, .ro (j.after.map iz)), (96, .val (.int .i64 j.after.length)), (97, .val (.int .i64 k))],
                      [some ⟨2, [psv p], false⟩]⟩)
                    (fun k => k ≤ j.after.length ∧ badAft i (j.after.drop k) = badAft i j.after) (fun k => j.after.length - k) 0 ?_ ?_ ?_
                  · simp
                  · simp [leS, hC]
                  · rintro k ⟨hk, hu⟩
                    by_cases hkl : k < j.after.length
                    · rw [badAft_drop hkl] at hu
                      simp (disch := omega) [hkl, lget_iz, w64]
                      refine ⟨fun b1 => ⟨fun b2 => ?_, fun b2 => ?_⟩, fun b1 => ?_⟩
                      · simp [b2] at hu
                        rw [bad 4 (vJob_4 q1 q2 q3 hu) (by omega)]; rfl
                      · have e1 : ¬ ig j.after k < 0 := by omega
                        have e2 : ¬ (i : Int) ≤ ig j.after k := by omega
                        simp [e1, e2] at hu
                        exact ⟨k + 1, ⟨by omega, hu⟩, by omega, by simp [leS, hC]⟩
                      · simp [b1] at hu
                        rw [bad 4 (vJob_4 q1 q2 q3 hu) (by omega)]; rfl
                    · obtain rfl : k = j.after.length := by omega
                      rw [List.drop_length] at hu
                      have q4 : badAft i j.after = false := hu.symm
                      rw [if_pos (vJob_5 q1 q2 q3 q4)] at hb
                      simp (disch := omega) [w64]
                      exact ⟨i + 1, s + j.long, ⟨by omega, by omega, by omega, by simpa using hb⟩, by omega, by simp [leS, hC]⟩
        · obtain rfl : i = p.jobs.length := by omega
          simp [vJobs] at hb
          rw [← hb]
          simp
          refine ⟨fun h => by rw [if_pos h]; rfl, fun h => by rw [if_neg (by omega)]; simp [eSV_0]⟩
set_option maxRecDepth 10000 in
theorem rValid_ok (p : Plan) (h1 : p.jobs.length ≤ 4398046511104) (h2 : p.caps.length ≤ 4398046511104) (h3 : ∀ i, i < p.jobs.length → (jg p.jobs i).after.length ≤ 4398046511104 ∧ (jg p.jobs i).uses.length ≤ 4398046511104) : PureF Tryd.prog 11 [psv p] (.val (.int .i64 (pvalid p : Nat))) := by
  refine pure_enter Tryd.func11 rfl (by simp) (fun C hC => ?_)
  simp
  refine ⟨fun h7 => ⟨fun hc => by rw [valid_bound (by omega)]; rfl, fun hc => ?_⟩, fun h7 => by rw [valid_bound (by omega)]; rfl⟩
  refine CodeJ.loop (ι := Nat) (fun i => ⟨127, [(1, .ptr 0 0 0), (3, .val (.int .i64 i))], [some ⟨2, [psv p], false⟩]⟩)
    (fun i => i ≤ p.caps.length ∧ badCap (p.caps.drop i) = badCap p.caps) (fun i => p.caps.length - i) 0 ?_ ?_ ?_
  · simp
  · simp [leS]
  · rintro i ⟨hi, hb⟩
    by_cases hlt : i < p.caps.length
    · rw [badCap_drop hlt] at hb
      simp (disch := omega) [hlt, lget_iz, w64]
      refine ⟨fun h0 => ⟨fun hc => ?_, fun hc => ?_⟩, fun h0 => ?_⟩
      · simp [hc] at hb
        rw [valid_cap (by omega) (by omega) hb]; rfl
      · have e1 : ¬ ig p.caps i < 0 := by omega
        have e2 : ¬ 100000000 < ig p.caps i := by omega
        simp [e1, e2] at hb
        exact ⟨i + 1, ⟨by omega, hb⟩, by omega, by simp [leS, hC]⟩
      · simp [h0] at hb
        rw [valid_cap (by omega) (by omega) hb]; rfl
    · obtain rfl : i = p.caps.length := by omega
      rw [List.drop_length] at hb
      have hv := valid_jobs (p := p) (by omega) (by omega) hb.symm
      clear hb
      simp
      refine CodeJ.loop (ι := Nat × Int) (fun ⟨i, s⟩ => ⟨127, [(1, .ptr 0 0 0), (4, .val (.int .i64 s)), (5, .val (.int .i64 i))], [some ⟨2, [psv p], false⟩]⟩)
        (fun ⟨i, s⟩ => i ≤ p.jobs.length ∧ 0 ≤ s ∧ s ≤ 30 * i ∧ vJobs p.caps i s (p.jobs.drop i) = pvalid p) (fun ⟨i, s⟩ => p.jobs.length - i) (0, 0) ?_ ?_ ?_
      · simp [hv]
      · simp [leS]
      · rintro ⟨i, s⟩ ⟨hi, hs0, hs, hb⟩
        by_cases hlt : i < p.jobs.length
        · rw [vJobs_drop hlt] at hb
          obtain ⟨g1, g2⟩ := h3 i hlt
          simp (disch := omega) [hlt, lget_iz, lget_jsv, w64]
          generalize jg p.jobs i = j at *
          have bad : ∀ c, vJob p.caps i j = c → c ≠ 0 → pvalid p = c := fun c e1 e2 => by rw [← hb, if_neg (by rw [e1]; exact e2), e1]
          by_cases q1 : j.long < 0 ∨ 30 < j.long ∨ 7 < j.after.length
          · rw [bad 2 (vJob_1 q1) (by omega)]
            refine ⟨fun a1 => ⟨fun a2 => ⟨fun _ => rfl, fun a3 => by omega⟩, fun _ => rfl⟩, fun _ => rfl⟩
          · refine ⟨fun a1 => ⟨fun a2 => ⟨fun _ => by omega, fun a3 => ⟨fun a4 => ?_, fun a4 => ?_⟩⟩, fun _ => by omega⟩, fun _ => by omega⟩
            · rw [bad 4 (vJob_2 q1 (by omega)) (by omega)]; rfl
            · have q2 : j.uses.length = p.caps.length := by omega
              refine CodeJ.loop (ι := Nat) (fun k => ⟨127, [(1, .ptr 0 0 0), (4, .val (.int .i64 s)), (5, .val (.int .i64 i)), (6, .ptr 1 0 0), (7, .val (.int .i64 k))],
                  [some ⟨2, [psv p], false⟩, some ⟨3, [jsv j], false⟩]⟩)
                (fun k => k ≤ p.caps.length ∧ badUse (j.uses.drop k) (p.caps.drop k) = badUse j.uses p.caps) (fun k => p.caps.length - k) 0 ?_ ?_ ?_
              · simp
              · simp [leS]
              · rintro k ⟨hk, hu⟩
                by_cases hkl : k < p.caps.length
                · rw [badUse_drop (by omega) hkl] at hu
                  simp (disch := omega) [hkl]
                  refine CodeJ.draw (.qs [0, 1, 2, 3, 4, 5, 6, 7, 8, 9, 10, 11, 12, 13, 14, 15, 16, 17, 18] <| .nil) (by kernel_rfl) (by kernel_rfl) (by simp) ?_
                  simp (disch := omega) [lget_iz, w64]
                  refine ⟨by omega, fun b1 => ⟨by omega, by omega, fun b2 => ?_, fun b2 => ?_⟩, fun b1 => ?_⟩
                  · simp [b2] at hu
                    rw [bad 4 (vJob_3 q1 q2 hu) (by omega)]; rfl
                  · have e1 : ¬ ig j.uses k < 0 := by omega
                    have e2 : ¬ ig p.caps k < ig j.uses k := by omega
                    simp [e1, e2] at hu
                    exact ⟨k + 1, ⟨by omega, hu⟩, by omega, by simp [leS, hC]⟩
                  · simp [b1] at hu
                    rw [bad 4 (vJob_3 q1 q2 hu) (by omega)]; rfl
                · obtain rfl : k = p.caps.length := by omega
                  rw [List.drop_length, List.drop_eq_nil_of_le (by omega)] at hu
                  have q3 : badUse j.uses p.caps = false := hu.symm
                  clear hu
                  simp
                  refine CodeJ.loop (ι := Nat) (fun k => ⟨127, [(1, .ptr 0 0 0), (4, .val (.int .i64 s)), (5, .val (.int .i64 i)), (6, .ptr 1 0 0), (8, .val (.int .i64 k))],
                      [some ⟨2, [psv p], false⟩, some ⟨3, [jsv j], false⟩]⟩)
                    (fun k => k ≤ j.after.length ∧ badAft i (j.after.drop k) = badAft i j.after) (fun k => j.after.length - k) 0 ?_ ?_ ?_
                  · simp
                  · simp [leS, hC]
                  · rintro k ⟨hk, hu⟩
                    by_cases hkl : k < j.after.length
                    · rw [badAft_drop hkl] at hu
                      simp (disch := omega) [hkl, lget_iz, w64]
                      refine ⟨fun b1 => ⟨fun b2 => ?_, fun b2 => ?_⟩, fun b1 => ?_⟩
                      · simp [b2] at hu
                        rw [bad 4 (vJob_4 q1 q2 q3 hu) (by omega)]; rfl
                      · have e1 : ¬ ig j.after k < 0 := by omega
                        have e2 : ¬ (i : Int) ≤ ig j.after k := by omega
                        simp [e1, e2] at hu
                        exact ⟨k + 1, ⟨by omega, hu⟩, by omega, by simp [leS, hC]⟩
                      · simp [b1] at hu
                        rw [bad 4 (vJob_4 q1 q2 q3 hu) (by omega)]; rfl
                    · obtain rfl : k = j.after.length := by omega
                      rw [List.drop_length] at hu
                      have q4 : badAft i j.after = false := hu.symm
                      rw [if_pos (vJob_5 q1 q2 q3 q4)] at hb
                      simp (disch := omega) [w64]
                      exact ⟨i + 1, s + j.long, ⟨by omega, by omega, by omega, by simpa using hb⟩, by omega, by simp [leS, hC]⟩
        · obtain rfl : i = p.jobs.length := by omega
          simp [vJobs] at hb
          rw [← hb]
          simp
          refine ⟨fun h => by rw [if_pos h]; rfl, fun h => by rw [if_neg (by omega)]; rfl⟩
end Go.Proofs
