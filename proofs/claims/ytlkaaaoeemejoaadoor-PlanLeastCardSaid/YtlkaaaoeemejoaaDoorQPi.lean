/- What the method try of package plan's searcher does. A text of the prover's own. -/
import Derived.Test.YtlkaaaoeemejoaaDoorQPh
namespace Go.Proofs
open Go.Sv Go Go.Pn
/-- the searcher's memory: the plan, (what was the tails'), the searcher, the starts -/
def TM (p : Plan) (T y : List Int) : Tab := [some ⟨2, [psv p], false⟩, none, some ⟨4, [.agg [.ro (p.jobs.map jsv), .ro (p.caps.map iz), .ro (T.map iz), .view 3 0 y.length]], false⟩, some ⟨1, y.map iz, false⟩]
theorem valid_of {p : Plan} (h : OK p) : pvalid p = 0 := by
  have h1 := h.nj
  have h2 := h.nc
  have hc : badCap p.caps = false := by
    simp only [badCap, List.any_eq_false, Bool.or_eq_true, decide_eq_true_eq]
    intro x hx
    obtain ⟨i, hi, rfl⟩ := List.getElem_of_mem hx
    have := h.cap i hi
    rw [ig_eq hi] at this
    omega
  rw [valid_jobs h1 h2 hc]
  have key : ∀ (js : List Job) (i s : Int), (∀ k, k < js.length → vJob p.caps (i + k) (jg js k) = 0) → s + (js.map fun j => j.long).sum ≤ 30 → vJobs p.caps i s js = 0 := by
    intro js
    induction js with
    | nil => intro i s _ hs; simp only [vJobs]; rw [if_neg (by simp at hs; omega)]
    | cons j js ih =>
      intro i s hk hs
      have h0 := hk 0 (by simp)
      simp only [jg, List.getD_cons_zero] at h0
      simp only [vJobs]
      rw [if_pos (by simpa using h0)]
      refine ih (i + 1) (s + j.long) (fun k hk' => ?_) (by simp at hs; omega)
      have := hk (k + 1) (by simpa using hk')
      rw [show i + ((k + 1 : Nat) : Int) = i + 1 + k by omega] at this
      simpa [jg] using this
  refine key p.jobs 0 0 (fun k hk => ?_) (by have := h.all; omega)
  have a1 := h.long k hk
  have a2 := h.usl k hk
  refine vJob_5 (by omega) a2 ?_ ?_
  · have bu : ∀ (us cs : List Int), (∀ c, c < us.length → c < cs.length → 0 ≤ ig us c ∧ ig us c ≤ ig cs c) → badUse us cs = false := by
      intro us
      induction us with
      | nil => intro cs _; cases cs <;> rfl
      | cons u us ih =>
        intro cs hh
        cases cs with
        | nil => rfl
        | cons c cs =>
          have h0 := hh 0 (by simp) (by simp)
          simp only [ig, List.getD_cons_zero] at h0
          simp only [badUse, Bool.or_eq_false_iff, decide_eq_false_iff_not]
          exact ⟨⟨by omega, by omega⟩, ih cs fun c h1 h2 => by simpa [ig] using hh (c + 1) (by simpa using h1) (by simpa using h2)⟩
    exact bu _ _ fun c h1 h2 => h.use k c hk h2
  · simp only [badAft, List.any_eq_false, Bool.or_eq_true, decide_eq_true_eq]
    intro a ha
    have := h.aft k a hk ha
    omega
theorem tail_le {p : Plan} (h : OK p) {T : List Int} (hT : TailOK p T) {i : Nat} (hi : i < p.jobs.length) : 0 ≤ ig T i ∧ ig T i ≤ 30 := by
  have h1 := hT.ge i hi
  have h2 := h.long i hi
  have h3 := hT.le _ _ (serial_good h) i hi
  have h4 := good_pos (serial_good h) hi
  have h5 := h.all
  omega
theorem fromOf_drop {p : Plan} {y l : List Int} {k : Nat} {m : Int} (h : k < l.length) : fromOf p y (l.drop k) m = fromOf p y (l.drop (k + 1)) (max m (ig y (ig l k).toNat + (jg p.jobs (ig l k).toNat).long)) := by
  rw [ig_drop h]; rfl
theorem fromOf_end {p : Plan} {y l : List Int} {m : Int} : fromOf p y (l.drop l.length) m = m := by rw [List.drop_length]; rfl
set_option maxRecDepth 10000 in
theorem pTry_ok (p : Plan) (hp : OK p) (T : List Int) (hT : TailOK p T) (hTl : T.length = p.jobs.length) (span : Int) (h0 : 0 ≤ span) (h1 : span ≤ 30) : ∀ (k : Nat) (y : List Int), y.length + k = p.jobs.length → (∀ i, i < y.length → 0 ≤ ig y i ∧ ig y i ≤ 30) →
    ∀ {C : Ctx} {K : Tab → List Nat → SV → Prop}, 3 ∉ C.fx → (∀ z J, dfs (SP p T span) k y = some z → K (TM p T z ++ J) [3] (.val (.bool true))) → (dfs (SP p T span) k y = none → ∀ J, K (TM p T y ++ J) [3] (.val (.bool false))) →
    CallJ Tryd.prog C 30 [.ptr 2 0 0, iz span] (TM p T y) none K
  | k, y, hl, hy, C, K, hfx, hS, hF => by
    refine call_here Tryd.func30 rfl (by simp) [3] (by simpa using hfx) (by simp) (fun C' hC => ?_)
    have hn := hp.nj
    have hC' : C'.fx = [0, 1, 2] := by rw [hC]; rfl
    clear hC
    unfold TM
    simp
    refine ⟨fun he => ?_, fun hne => ?_⟩
    · cases k with
      | zero => simpa [TM] using hS y [] rfl
      | succ k => omega
    · cases k with
      | zero => omega
      | succ k =>
        have hyl : y.length < p.jobs.length := by omega
        obtain ⟨b3, b4, b4'⟩ := hp.long y.length hyl
        have b5 := hp.aft y.length
        simp (disch := omega) [lget_jsv]
        refine ⟨hyl, ?_⟩
        generalize hj : jg p.jobs y.length = j at *
        have hlo : (SP p T span).lo y = fromOf p y j.after 0 := by rw [← hj]; rfl
        have hhi : (SP p T span).hi y = span - ig T y.length := rfl
        obtain ⟨t0, t1⟩ := tail_le hp hT hyl
        refine CodeJ.loop (ι := Nat × Int) (fun ⟨q, m⟩ => ⟨122, [(0, .ptr 2 0 0), (1, iz span), (4, .val (.bool false)), (5, .val (.int .i64 y.length)), (6, iz m), (34, .ro (j.after.map iz)), (35, .val (.int .i64 j.after.length)), (36, .val (.int .i64 q))], TM p T y⟩)
          (fun ⟨q, m⟩ => q ≤ j.after.length ∧ 0 ≤ m ∧ m ≤ 60 ∧ fromOf p y (j.after.drop q) m = fromOf p y j.after 0) (fun ⟨q, m⟩ => j.after.length - q) (0, 0) ?_ ?_ ?_
        · simp
        · simp [leS, TM]
        · rintro ⟨q, m⟩ ⟨hq, m0, m1, hm⟩
          by_cases hql : q < j.after.length
          · rw [fromOf_drop hql] at hm
            obtain ⟨b6, b7⟩ := b5 (ig j.after q) hyl (by rw [ig_eq hql]; exact List.getElem_mem hql)
            obtain ⟨b8, b9⟩ := hy (ig j.after q).toNat (by omega)
            obtain ⟨b10, b11, -⟩ := hp.long (ig j.after q).toNat (by omega)
            unfold TM
            simp (disch := omega) [hql, lget_iz]
            refine CodeJ.draw (.qs [0, 1, 2, 3, 4, 5, 6, 7, 8, 9, 10, 11, 12, 13, 14, 15, 16, 17, 18, 19] <| .nil) (by kernel_rfl) (by kernel_rfl) (by simp) ?_
            simp (disch := omega) [lget_iz, lget_jsv, w64]
            exact ⟨⟨by omega, by omega⟩, by omega, ⟨by omega, by omega⟩, q + 1, max m (ig y (ig j.after q).toNat + (jg p.jobs (ig j.after q).toNat).long), ⟨by omega, by omega, by omega, hm⟩, by omega, by simp (disch := omega) [leS, hC', w64]⟩
          · obtain rfl : q = j.after.length := by omega
            rw [fromOf_end] at hm
            rw [← hm] at hlo
            unfold TM
            simp (disch := omega) [w64]
            have hD : dfs (SP p T span) (k + 1) y = scan (stepF (SP p T span) k y) (span - ig T y.length - m + 1).toNat m := by rw [dfs_succ, hlo, hhi]
            refine CodeJ.loopL (ι := Int) (fun a => ⟨122, [(0, .ptr 2 0 0), (1, iz span), (4, .val (.bool false)), (5, .val (.int .i64 y.length)), (9, iz a)], TM p T y⟩)
              (fun a => 0 ≤ a ∧ a ≤ 61 ∧ scan (stepF (SP p T span) k y) (span - ig T y.length - a + 1).toNat a = dfs (SP p T span) (k + 1) y) (fun a => (61 - a).toNat) m ?_ ?_ ?_
            · exact ⟨m0, by omega, hD.symm⟩
            · simp [leS, TM]
            · rintro a ⟨a0, a1, hs⟩
              by_cases hlt : a + ig T y.length ≤ span
              · rw [scan_step (by omega)] at hs
                unfold TM
                simp (disch := omega) [lget_iz, hlt, w64]
                refine ⟨by omega, ⟨by simp [hC'], by omega⟩, ?_⟩
                refine CodeJ.le (st' := ⟨122, [(0, .ptr 2 0 0), (1, iz span), (4, .val (.bool false)), (5, .val (.int .i64 y.length)), (9, iz a)], TM p T (y ++ [a])⟩) (Le.syn (by simp [leS, TM, hC'])) ?_
                have hlen : (y ++ [a]).length = y.length + 1 := by simp
                have hst : stepF (SP p T span) k y a = if (SP p T span).ok (y ++ [a]) = true then dfs (SP p T span) k (y ++ [a]) else none := rfl
                rw [hst] at hs
                have hz : ∀ i, i < (y ++ [a]).length → 0 ≤ ig (y ++ [a]) i ∧ ig (y ++ [a]) i ≤ 30 := fun i hi => by
                  rcases Nat.lt_or_ge i y.length with h | h
                  · have e : ig (y ++ [a]) i = ig y i := by simp [ig, List.getD_eq_getElem?_getD, List.getElem?_append_left h]
                    rw [e]; exact hy i h
                  · obtain rfl : i = y.length := by omega
                    have e : ig (y ++ [a]) y.length = a := by simp [ig, List.getD_eq_getElem?_getD]
                    rw [e]; omega
                have hback : ∀ J, Le C' ⟨122, [(0, .ptr 2 0 0), (1, iz span), (4, .val (.bool false)), (5, .val (.int .i64 y.length)), (9, iz a)], TM p T (y ++ [a]) ++ J⟩ ⟨122, [(0, .ptr 2 0 0), (1, iz span), (4, .val (.bool false)), (5, .val (.int .i64 y.length)), (9, iz a)], TM p T (y ++ [a])⟩ := fun J => Le.syn (by simp [leS, TM, hC'])
                have hyz : y = (y ++ [a]).take y.length := by simp
                have ih := fun {C : Ctx} {K : Tab → List Nat → SV → Prop} => @pTry_ok p hp T hT hTl span h0 h1 k (y ++ [a]) (by rw [hlen]; omega) hz C K
                generalize y ++ [a] = z at *
                have hpl : (Pn.part p (y.length + 1)).jobs.length = y.length + 1 := by simp [Pn.part]; omega
                have op := ok_part hp (y.length + 1)
                have v0 := valid_of op
                have g1 := pSpan_ok (Pn.part p (y.length + 1)) z (by omega) (by omega) (by have := hp.nc; simp [Pn.part]; omega) (fun i hi => by have := op.long i hi; have := op.usl i hi; have := op.nc; omega)
                have hsv : spanV (Pn.part p (y.length + 1)) z = .tup [iz (spanR (Pn.part p (y.length + 1)) z).1, .val (.bool (spanR (Pn.part p (y.length + 1)) z).2), .val .nilIface] := by
                  unfold spanV; rw [if_neg (by rw [v0]; simp), if_neg (by rw [hlen, hpl]; simp)]
                have hok : (SP p T span).ok z = (spanR (Pn.part p (y.length + 1)) z).2 := by show (spanR (Pn.part p z.length) z).2 = _; rw [hlen]
                rw [hsv] at g1
                unfold TM
                refine CodeJ.draw (.qs [0, 1, 2, 3, 4, 5, 6, 7, 8, 9, 10, 11, 12, 13, 14, 15, 16, 17] <| .l 18 [] <| .qs [19, 20, 21, 22, 23, 24, 25] <| .nil) (by kernel_rfl) (by kernel_rfl) (by simp) ?_
                simp (disch := omega) [w64, hlen]
                have htk : List.take (y.length + 1) (List.map iz z) = List.map iz z := List.take_of_length_le (by simp; omega)
                have hty : List.take y.length (List.map iz z) = List.map iz y := by rw [← List.map_take, ← hyz]
                rw [part_sv]
                refine ⟨by omega, callQ g1 (by simp [htk, hlen]) (fun x hx => ?_)⟩
                subst hx
                refine ⟨rfl, ?_⟩
                rw [← hok]
                have nxt : (if (SP p T span).ok z = true then dfs (SP p T span) k z else none) = none → (0 ≤ a + 1 ∧ a + 1 ≤ 61 ∧ scan (stepF (SP p T span) k y) (span - ig T y.length - (a + 1) + 1).toNat (a + 1) = dfs (SP p T span) (k + 1) y) := fun hn => by
                  rw [hn] at hs
                  simp only at hs
                  exact ⟨by omega, by omega, by rw [← hs]; congr 1; omega⟩
                cases hk : (SP p T span).ok z with
                | false =>
                  have n1 := nxt (by simp [hk])
                  simp (disch := omega) [w64, hlen]
                  refine ⟨by omega, a + 1, n1, by omega, (Le.trunc 3 y.length (by rfl)).trans (Le.syn ?_)⟩
                  simp [leS, tset, hty, hC']
                | true =>
                  rw [hk, if_pos rfl] at hs nxt
                  simp (disch := omega) [w64, hlen]
                  rw [← hlen]
                  refine ih (by simp [hC']) (fun z1 J hd => ?_) (fun hd J => ?_)
                  · have fin := hS z1 J (by rw [← hs, hd])
                    unfold TM at fin ⊢
                    simp at fin ⊢
                    exact fin
                  · have n1 := nxt hd
                    unfold TM
                    simp (disch := omega) [w64, hlen]
                    refine ⟨by omega, a + 1, n1, by omega, (Le.trunc 3 y.length (by rfl)).trans (Le.syn ?_)⟩
                    simp [leS, tset, hty, hC']
              · rw [show (span - ig T y.length - a + 1).toNat = 0 by omega] at hs
                unfold TM
                simp (disch := omega) [lget_iz, hlt, w64]
                refine ⟨by omega, ?_⟩
                have := hF hs.symm []
                simpa [TM] using this
end Go.Proofs
