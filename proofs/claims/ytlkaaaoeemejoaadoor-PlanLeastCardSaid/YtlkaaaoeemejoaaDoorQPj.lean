/- What the function Least of package plan returns. A text of the prover's own. -/
import Derived.Test.YtlkaaaoeemejoaaDoorQPi
namespace Go.Proofs
open Go.Sv Go Go.Pn
theorem lset_iz {l : List Int} {i : Nat} {v : Int} : lset (l.map iz) i (iz v) = (l.set i v).map iz := by rw [lset_eq, List.map_set]
/-- what Least tells -/
def leastV (p : Plan) (S : Nat) (z : List Int) : SV :=
  if pvalid p ≠ 0 then .tup [.ro [], iz 0, eSV (pvalid p)] else .tup [.ro (z.map iz), iz S, .val .nilIface]
theorem tailIn_drop {v : Int} {l tl : List Int} {q : Nat} (h : q < l.length) : tailIn v (l.drop q) tl = tailIn v (l.drop (q + 1)) (tl.set (ig l q).toNat (max (ig tl (ig l q).toNat) v)) := by
  rw [ig_drop h]; rfl
theorem workOf_drop {c : Nat} {js : List Job} {i : Nat} (h : i < js.length) : workOf c (js.drop i) = (jg js i).long * ig (jg js i).uses c + workOf c (js.drop (i + 1)) := by
  rw [jg_drop h]; rfl
theorem capGo_drop {p : Plan} {l : List Int} {c : Nat} {v : Int} (h : c < l.length) : capGo p c (l.drop c) v = capGo p (c + 1) (l.drop (c + 1)) (if 0 < ig l c then max v ((workOf c p.jobs + ig l c - 1).tdiv (ig l c)) else v) := by
  rw [ig_drop h]; rfl
set_option maxRecDepth 10000 in
theorem pLeast_ok (p : Plan) (h1 : p.jobs.length ≤ 4398046511104) (h2 : p.caps.length ≤ 4398046511104) (h3 : ∀ i, i < p.jobs.length → (jg p.jobs i).after.length ≤ 4398046511104 ∧ (jg p.jobs i).uses.length ≤ 4398046511104)
    {S : Nat} {z : List Int} (hS : OK p → IsLeast p S z) : PureF Tryd.prog 15 [psv p] (leastV p S z) := by
  refine pure_enter Tryd.func15 rfl (by simp) (fun C hC => ?_)
  have hv := pValid_ok p h1 h2 h3
  unfold leastV
  simp
  refine callS hv (by simp) ?_
  by_cases v0 : pvalid p = 0
  · have hp := ok_of v0
    have hL := hS hp
    have hn := hp.nj
    simp [v0]
    refine CodeJ.draw (.qs [0, 1, 2, 3] <| .l 4 [] <| .qs [5] <| .l 6 [] <| .qs [7] <| .nil) (by kernel_rfl) (by kernel_rfl) (by simp) ?_
    simp (disch := omega) [w64]
    refine ⟨by omega, ?_⟩
    have sb : ∀ {i : Nat} {s : List Int × Int}, TI' p i s → (∀ k, k < p.jobs.length → 0 ≤ ig s.1 k ∧ ig s.1 k ≤ 30) ∧ 0 ≤ s.2 ∧ s.2 ≤ 30 := fun {i s} h => by
      have hg := serial_good hp
      have ha := hp.all
      refine ⟨fun k hk => ⟨h.pos k, ?_⟩, h.l0, ?_⟩
      · have e1 := h.hi _ _ hg k hk
        have e2 := good_pos hg hk
        have e3 := (hp.long k hk).1
        split at e1 <;> omega
      · rcases Nat.eq_zero_or_pos p.jobs.length with e | e
        · have := h.ls 0 [] ⟨by simp [e], fun i hi => by omega, fun i hi => by omega⟩ (Int.le_refl _)
          omega
        · have e1 := h.hi _ _ hg 0 e
          have e2 := good_pos hg e
          have e3 := (hp.long 0 e).1
          have e4 := h.pos 0
          have := h.ls _ _ hg (by split at e1 <;> omega)
          omega
    refine CodeJ.loop (ι := Nat × List Int × Int) (fun ⟨i, tl, l⟩ => ⟨156, [(1, .ptr 0 0 0), (6, .ptr 2 0 0), (7, iz l), (8, iz ((i : Int) - 1))], [some ⟨2, [psv p], false⟩, some ⟨1, tl.map iz, false⟩, some ⟨4, [.agg [.ro (p.jobs.map jsv), .ro (p.caps.map iz), .view 1 0 p.jobs.length, .val (.slice none 0 0)]], false⟩]⟩)
      (fun ⟨i, tl, l⟩ => i ≤ p.jobs.length ∧ TI' p i (tl, l) ∧ tailsFrom p i (tl, l) = tailsOf p) (fun ⟨i, tl, l⟩ => i) (p.jobs.length, List.replicate p.jobs.length 0, 0) ?_ ?_ ?_
    · exact ⟨Nat.le_refl _, tails_start, rfl⟩
    · simp (disch := omega) [leS, w64]
    · rintro ⟨i, tl, l⟩ ⟨hi, ht, hto⟩
      obtain ⟨sb1, sb2, sb3⟩ := sb ht
      have htl := ht.len
      simp only at sb1 sb2 sb3 htl
      cases i with
      | zero =>
        simp (disch := omega) [w64]
        have hto2 : (tl, l) = tailsOf p := hto
        have hT : TailOK p tl := by have := tailOK hp; rw [← hto2] at this; exact this
        refine CodeJ.frz 1 rfl (by simp) ?_
        simp [frzS, tset]
        have hlo : capGo p 0 p.caps l = leastOf p := by unfold leastOf; rw [← hto2]
        refine CodeJ.loop (ι := Nat × Int) (fun ⟨c, l⟩ => ⟨156, [(1, .ptr 0 0 0), (6, .ptr 2 0 0), (7, iz l), (96, .ro (p.caps.map iz)), (97, .val (.int .i64 p.caps.length)), (98, .val (.int .i64 c))], [some ⟨2, [psv p], false⟩, none, some ⟨4, [.agg [.ro (p.jobs.map jsv), .ro (p.caps.map iz), .ro (tl.map iz), .val (.slice none 0 0)]], false⟩]⟩)
          (fun ⟨c, l⟩ => c ≤ p.caps.length ∧ 0 ≤ l ∧ l ≤ 100000000000 ∧ capGo p c (p.caps.drop c) l = leastOf p) (fun ⟨c, l⟩ => p.caps.length - c) (0, l) ?_ ?_ ?_
        · exact ⟨by omega, by omega, by omega, hlo⟩
        · have e1 : List.take p.jobs.length (tl.map iz) = tl.map iz := List.take_of_length_le (by simp [htl])
          simp [leS, sbV_pure 1 (tl.map iz) (psv p) rfl, e1, htl]
        · rintro ⟨c, l⟩ ⟨hc, hl0, hl1, hcl⟩
          by_cases hlt : c < p.caps.length
          · rw [capGo_drop hlt] at hcl
            obtain ⟨d1, d2⟩ := hp.cap c hlt
            simp (disch := omega) [hlt, lget_iz, w64]
            refine CodeJ.loop (ι := Nat × Int) (fun ⟨i, s⟩ => ⟨156, [(1, .ptr 0 0 0), (6, .ptr 2 0 0), (7, iz l), (11, .val (.int .i64 c)), (12, iz (ig p.caps c)), (13, iz s), (96, .ro (p.caps.map iz)), (97, .val (.int .i64 p.caps.length)), (98, .val (.int .i64 c)), (104, .ro (p.jobs.map jsv)), (105, .val (.int .i64 p.jobs.length)), (106, .val (.int .i64 i))], [some ⟨2, [psv p], false⟩, none, some ⟨4, [.agg [.ro (p.jobs.map jsv), .ro (p.caps.map iz), .ro (tl.map iz), .val (.slice none 0 0)]], false⟩]⟩)
              (fun ⟨i, s⟩ => i ≤ p.jobs.length ∧ 0 ≤ s ∧ s ≤ 3000000000 * i ∧ s + workOf c (p.jobs.drop i) = workOf c p.jobs) (fun ⟨i, s⟩ => p.jobs.length - i) (0, 0) ?_ ?_ ?_
            · simp
            · simp [leS]
            · rintro ⟨i, s⟩ ⟨hi, hs0, hs1, hw⟩
              by_cases hil : i < p.jobs.length
              · rw [workOf_drop hil] at hw
                obtain ⟨b3, b4, -⟩ := hp.long i hil
                have b5 := hp.usl i hil
                obtain ⟨b6, b7⟩ := hp.use i c hil hlt
                simp (disch := omega) [hil, lget_jsv]
                generalize jg p.jobs i = j at *
                have m0 := Int.mul_nonneg b3 b6
                have m1 : j.long * ig j.uses c ≤ 30 * 100000000 := Int.mul_le_mul b4 (by omega) b6 (by omega)
                refine CodeJ.draw (.qs [0, 1, 2, 3, 4, 5, 6, 7, 8, 9, 10] <| .nil) (by kernel_rfl) (by kernel_rfl) (by simp) ?_
                simp (disch := omega) [lget_iz, w64]
                exact ⟨by omega, i + 1, s + j.long * ig j.uses c, ⟨by omega, by omega, by omega, by omega⟩, by omega, by simp (disch := omega) [leS, hC, w64]⟩
              · obtain rfl : i = p.jobs.length := by omega
                rw [List.drop_length] at hw
                have hw' : s = workOf c p.jobs := by simpa [workOf] using hw
                simp (disch := omega) [lget_iz, w64]
                refine ⟨fun hp0 => ⟨by omega, ?_⟩, fun hp0 => ?_⟩
                · rw [if_pos hp0, ← hw'] at hcl
                  have q0 : 0 ≤ (s + ig p.caps c - 1).tdiv (ig p.caps c) := Int.tdiv_nonneg (by omega) (by omega)
                  have q1 : (s + ig p.caps c - 1).tdiv (ig p.caps c) ≤ s + ig p.caps c - 1 := by
                    rw [Int.tdiv_eq_ediv_of_nonneg (by omega)]; exact Int.ediv_le_self _ (by omega)
                  exact ⟨c + 1, max l ((s + ig p.caps c - 1).tdiv (ig p.caps c)), ⟨by omega, by omega, by omega, hcl⟩, by omega, by simp (disch := omega) [leS, hC, w64]⟩
                · rw [if_neg (by omega)] at hcl
                  exact ⟨c + 1, l, ⟨by omega, by omega, by omega, hcl⟩, by omega, by simp (disch := omega) [leS, hC, w64]⟩
          · obtain rfl : c = p.caps.length := by omega
            rw [List.drop_length] at hcl
            have hcl' : l = leastOf p := hcl
            simp (disch := omega) [w64]
            refine CodeJ.le (Le.nilCell 2 3 1 rfl rfl rfl rfl (by simp)) ?_
            have dB : ∀ q : Nat, dfs (SP p tl q) p.jobs.length [] = dfs (SR p q) p.jobs.length [] := fun q => dfs_both hp hT q
            have hlow := hL.low
            have hle := hL.le
            refine CodeJ.loop (ι := Nat) (fun q => ⟨156, [(6, .ptr 2 0 0), (16, .val (.int .i64 q))], TM p tl []⟩) (fun q => leastOf p ≤ q ∧ q ≤ S) (fun q => S - q) (leastOf p).toNat ?_ ?_ ?_
            · exact ⟨by omega, by omega⟩
            · have e : (((leastOf p).toNat : Nat) : Int) = leastOf p := by omega
              simp [leS, TM, tset, lset, hcl', e]
            · rintro q ⟨hq0, hq1⟩
              simp
              refine pTry_ok p hp tl hT htl q (by omega) (by omega) p.jobs.length [] (by simp) (by simp) (by simp [hC]) (fun z1 J hd => ?_) (fun hd J => ?_)
              · rw [dB q] at hd
                rcases Nat.lt_or_ge q S with h | h
                · rw [hL.none q h] at hd; cases hd
                · obtain rfl : q = S := by omega
                  rw [hL.here] at hd
                  simp only [Option.some.injEq] at hd
                  subst hd
                  have hzl := hL.len
                  unfold TM
                  simp (disch := omega) [w64]
                  have e : List.take z.length (List.map iz z) = List.map iz z := List.take_of_length_le (by simp)
                  rw [e, e]
                  refine ⟨by omega, ?_⟩
                  simp
              · rw [dB q] at hd
                have hlt' : q < S := by
                  rcases Nat.lt_or_ge q S with h | h
                  · exact h
                  · obtain rfl : q = S := by omega
                    rw [hL.here] at hd; cases hd
                unfold TM
                simp (disch := omega) [w64]
                exact ⟨q + 1, ⟨by omega, by omega⟩, by omega, by simp [leS, hC]⟩
      | succ i =>
        have hnx := tailStep_ok hp (i := i) (by omega) ht
        obtain ⟨b3, b4, b4'⟩ := hp.long i (by omega)
        have b5 := hp.aft i
        obtain ⟨c1, c2⟩ := sb1 i (by omega)
        have hI : (0 : Int) ≤ i := by omega
        simp (disch := omega) [hI]
        refine CodeJ.draw (.qs [0, 1, 2, 3, 4, 5, 6, 7, 8, 9, 10, 11, 12, 13, 14] <| .l 15 [1] <| .nil) (by kernel_rfl) (by kernel_rfl) (by simp) ?_
        simp (disch := omega) [lget_iz, lget_jsv, w64]
        refine ⟨by omega, by omega, by omega, by omega, by omega, ?_⟩
        have hts : tailStep p i (tl, l) = (tailIn (ig tl i + (jg p.jobs i).long) (jg p.jobs i).after (tl.set i (ig tl i + (jg p.jobs i).long)), max l (ig tl i + (jg p.jobs i).long)) := rfl
        have hv0 : ig (tl.set i (ig tl i + (jg p.jobs i).long)) i = ig tl i + (jg p.jobs i).long := by rw [ig_set (by omega), if_pos rfl]
        have hl0 : (tl.set i (ig tl i + (jg p.jobs i).long)).length = p.jobs.length := by simp [htl]
        have hto' : tailsFrom p i (tailStep p i (tl, l)) = tailsOf p := hto
        generalize jg p.jobs i = j at *
        rw [show SV.val (.int .i64 (ig tl i + j.long)) = iz (ig tl i + j.long) from rfl, lset_iz]
        generalize ig tl i + j.long = v at *
        generalize tl.set i v = tl1 at *
        refine CodeJ.loop (ι := Nat × List Int) (fun ⟨q, t⟩ => ⟨156, [(1, .ptr 0 0 0), (6, .ptr 2 0 0), (7, iz l), (8, .val (.int .i64 i)), (58, .ro (j.after.map iz)), (59, .val (.int .i64 j.after.length)), (60, .val (.int .i64 q))], [some ⟨2, [psv p], false⟩, some ⟨1, t.map iz, false⟩, some ⟨4, [.agg [.ro (p.jobs.map jsv), .ro (p.caps.map iz), .view 1 0 p.jobs.length, .val (.slice none 0 0)]], false⟩]⟩)
          (fun ⟨q, t⟩ => q ≤ j.after.length ∧ t.length = p.jobs.length ∧ ig t i = v ∧ tailIn v (j.after.drop q) t = tailIn v j.after tl1) (fun ⟨q, t⟩ => j.after.length - q) (0, tl1) ?_ ?_ ?_
        · exact ⟨by omega, hl0, hv0, by rfl⟩
        · simp [leS]
        · rintro ⟨q, t⟩ ⟨hq, hqt, hqi, hqr⟩
          by_cases hql : q < j.after.length
          · rw [tailIn_drop hql] at hqr
            obtain ⟨b6, b7⟩ := b5 (ig j.after q) (by omega) (by rw [ig_eq hql]; exact List.getElem_mem hql)
            simp (disch := omega) [hql, lget_iz]
            refine CodeJ.draw (.qs [0, 1, 2, 3, 4, 5, 6, 7, 8, 9, 10, 11, 12, 13, 14, 15, 16, 17, 18, 19, 20] <| .l 21 [1] <| .nil) (by kernel_rfl) (by kernel_rfl) (by simp) ?_
            simp (disch := omega) [lget_iz, hqi, w64]
            have hls : lset (List.map iz t) (ig j.after q).toNat (SV.val (.int .i64 (max (ig t (ig j.after q).toNat) v))) = (t.set (ig j.after q).toNat (max (ig t (ig j.after q).toNat) v)).map iz := lset_iz
            exact ⟨⟨by omega, by omega⟩, by omega, by omega, by omega, ⟨by omega, by omega⟩, by omega, q + 1, t.set (ig j.after q).toNat (max (ig t (ig j.after q).toNat) v), ⟨by omega, by simp [hqt], by rw [ig_set (by omega), if_neg (by omega)]; exact hqi, hqr⟩, by omega, by simp (disch := omega) [leS, hC, hls, w64, -List.map_set]⟩
          · obtain rfl : q = j.after.length := by omega
            rw [List.drop_length] at hqr
            have hqr' : t = tailIn v j.after tl1 := hqr
            simp (disch := omega) [lget_iz, hqi, w64]
            exact ⟨by omega, by omega, i, t, max l v, ⟨by omega, by rw [hqr', ← hts]; exact hnx, by rw [hqr', ← hts]; exact hto'⟩, by omega, by simp (disch := omega) [leS, hC, w64]⟩
  · simp [v0]
end Go.Proofs
