/- What functions of the given program return (long_ok), for arguments within the bounds that each theorem names. A text of the prover's own. -/
import Derived.Test.YtgiagombkgjhfaaDoorFk
import Derived.Test.YtgiagombkgjhfaaDoorKn
namespace Go.Proofs
open Go.Sv Go Go.Pl
set_option maxRecDepth 20000 in
set_option maxHeartbeats 8000000 in
theorem long_ok (m n : Nat) (hn : n ≠ 0) (hwm : wid 4294967296 m ≤ 2000000000000) (hwn : wid 4294967296 n ≤ 2000000000000) :
    PureF Tryd.prog 87 [.ro ((dig 4294967296 m).map u32), .ro ((dig 4294967296 n).map u32)] (.tup [.ro ((dig 4294967296 (m / n)).map u32), .ro ((dig 4294967296 (m % n)).map u32)]) := by
  refine pure_enter Tryd.func87 rfl (by simp) (fun C hC => ?_)
  have B2 : 2 ≤ 4294967296 := by omega
  have hc := compare_ok m n (by omega) (by omega)
  have vm := val_dig B2 m
  have vn := val_dig B2 n
  have lm := dig_lt B2 m
  have ln := dig_lt B2 n
  have hne : dig 4294967296 n ≠ [] := fun h => hn ((dig_eq_nil B2).1 h)
  simp only [wid] at hwm hwn
  simp
  refine callF hc (by simp) ?_
  rcases Nat.lt_or_ge m n with hlt | hge
  · have e : cmp3 m n = -1 := by simp [cmp3, hlt]
    rw [e]
    simp
    rw [Nat.div_eq_of_lt hlt, Nat.mod_eq_of_lt hlt]
    simp [dig_zero, List.take_of_length_le]
    omega
  · have e : ¬ cmp3 m n < 0 := by simp [cmp3]; omega
    simp [e]
    have hlen : (dig 4294967296 n).length ≤ (dig 4294967296 m).length := wid_mono B2 hge
    refine ⟨fun h1 => ?_, fun h1 => ?_⟩
    · obtain ⟨d, hd⟩ := List.length_eq_one_iff.1 (by omega : (dig 4294967296 n).length = 1)
      rw [hd] at vn ln
      simp [val] at vn ln
      subst vn
      rw [hd]
      simp
      refine CodeJ.draw (.qs [0, 2, 3] <| .q 4 [1000000] <| .l 1 [1000000] <| .l 5 [0, 1000000] <| .qs [6, 7, 8, 9, 10] <| .nil) (by kernel_rfl) (by kernel_rfl) (by simp) ?_
      simp
      refine ⟨by omega, ?_⟩
      refine short_here (dig 4294967296 m) [] d (by simp) (by omega) lm (by omega) (by simp [tget]; rintro i e h; cases i <;> simp_all [tget]) (fun q h2 h3 h4 => ?_)
      rw [vm] at h4 ⊢
      simp
      refine callF (trim_ok [m % d] (by simp)) (by simp) ?_
      simp
      have e1 : dig 4294967296 (m / d) = trimL q := by rw [← h4, dig_val B2 q h2]
      have e2 : dig 4294967296 (m % d) = trimL [m % d] := by
        have := dig_val B2 [m % d] (by simp; have := Nat.mod_lt m (show 0 < d by omega); omega)
        simpa [val] using this
      rw [e1, e2]
      simp [trimL_le, ← List.map_take, trimL_take]
    · have hT0 : 0 < dg (dig 4294967296 n) ((dig 4294967296 n).length - 1) := Nat.pos_of_ne_zero (dig_last B2 hn)
      generalize dig 4294967296 m = a at *
      generalize dig 4294967296 n = b at *
      have hb1 : b.length ≠ 1 := by omega
      have hb0 : b.length ≠ 0 := fun h => hne (List.length_eq_zero_iff.1 h)
      have bT := dg_lt ln (by omega) (b.length - 1)
      refine CodeJ.loop (ι := Nat) (fun up => ⟨180, [(0, .ro (a.map u32)), (1, .ro (b.map u32)), (8, .val (.int .u64 up))], []⟩) (fun up => up < 32 ∧ 2 ^ up * dg b (b.length - 1) < 4294967296) (fun up => 32 - up) 0 ?_ ?_ ?_
      · simp; omega
      · simp [leS, hC]
      · rintro up ⟨hu1, hu2⟩
        obtain ⟨T, hT⟩ : ∃ T, T = 2 ^ up * dg b (b.length - 1) := ⟨_, rfl⟩
        have e1 : (dg b (b.length - 1) : Int) * 2 ^ up = T := by rw [hT]; push_cast; exact Int.mul_comm _ _
        have hmin : min up 32 = up := by omega
        rw [← hT] at hu2
        have e3 : (T : Int) % 4294967296 = T := by omega
        by_cases hh : T < 2147483648
        · have e2 : (T : Int) / 2147483648 = 0 := by omega
          have h31 : up + 1 < 32 := by
            rcases Nat.lt_or_ge (up + 1) 32 with h | h
            · exact h
            · exfalso
              obtain rfl : up = 31 := by omega
              omega
          simp (disch := omega) [w64, lget_u32, u32w, wu64, wu32, e1, e2, e3, hmin]
          refine ⟨by omega, up + 1, ⟨h31, by rw [Nat.pow_succ, Nat.mul_right_comm, ← hT]; omega⟩, by omega, by simp [leS, hC]⟩
        · have e2 : (T : Int) / 2147483648 = 1 := by omega
          simp (disch := omega) [w64, lget_u32, u32w, wu64, wu32, e1, e2, e3, hmin]
          refine ⟨by omega, ?_⟩
          have hBu : 4294967296 = 2 ^ up * (4294967296 / 2 ^ up) := by
            rw [Nat.mul_div_cancel']
            exact Nat.pow_dvd_pow 2 (show up ≤ 32 by omega)
          have fa : val 4294967296 a * 2 ^ up < 4294967296 ^ (a.length + 1) := by
            have h1 := val_lt a lm
            have h2 : 2 ^ up < 4294967296 := Nat.pow_lt_pow_right (by omega) (show up < 32 by omega)
            rw [Nat.pow_succ]
            exact Nat.mul_lt_mul'' h1 h2
          have fb : val 4294967296 b * 2 ^ up < 4294967296 ^ b.length := by
            have := top_up (n := b.length - 1) ln (by omega) hBu (by rw [← hT]; omega)
            rwa [show b.length - 1 + 1 = b.length by omega] at this
          refine left_here a up (a.length + 1) (by push_cast; rfl) lm hu1 (by omega) (by omega) fa (fun us gu1 gu2 gu3 => ?_)
          simp
          refine left_here b up b.length rfl ln hu1 (by omega) (by omega) fb (fun vs gv1 gv2 gv3 => ?_)
          obtain ⟨c0, hc0⟩ : ∃ c0, a.length + 1 = c0 + b.length := ⟨a.length + 1 - b.length, by omega⟩
          have ec0 : (a.length : Int) + 1 - b.length = c0 := by omega
          simp (disch := omega) [w64, ec0]
          refine ⟨by omega, ?_⟩
          obtain ⟨V, hV⟩ : ∃ V, V = val 4294967296 vs := ⟨_, rfl⟩
          have hV1 : V < 4294967296 ^ b.length := by rw [hV, gv3]; exact fb
          have hV0 : 0 < V := by rw [hV, gv3, vn]; exact Nat.mul_pos (by omega) (Nat.two_pow_pos up)
          have hTV : T * 4294967296 ^ (b.length - 1) ≤ V := by
            have := val_ge (B := 4294967296) (n := b.length - 1) (l := b) (by omega)
            rw [hV, gv3, hT, Nat.mul_assoc, Nat.mul_comm]
            exact Nat.mul_le_mul_right _ this
          have hvt : 2147483648 ≤ dg vs (b.length - 1) := by
            have := top_ge (by omega) (show vs.length = b.length - 1 + 1 by omega) gv2 (by rw [← hV]; exact hTV)
            omega
          refine CodeJ.loop (ι := List Nat × List Nat × Nat) (fun ⟨us, qs, c⟩ => ⟨180, [(8, .val (.int .u64 up)), (9, .view 0 0 (a.length + 1)), (10, .view 1 0 b.length), (11, .val (.int .i64 b.length)), (12, .view 2 0 c0), (13, .val (.int .i64 ((c : Int) - 1)))],
              [some ⟨1, us.map u32, false⟩, some ⟨1, vs.map u32, false⟩, some ⟨1, qs.map u32, false⟩]⟩)
            (fun ⟨us, qs, c⟩ => us.length = a.length + 1 ∧ qs.length = c0 ∧ c ≤ c0 ∧ (∀ d ∈ us, d < 4294967296) ∧ (∀ d ∈ qs, d < 4294967296) ∧ val 4294967296 us < V * 4294967296 ^ c ∧ m * 2 ^ up = val 4294967296 us + V * (4294967296 ^ c * val 4294967296 (qs.drop c)))
            (fun ⟨us, qs, c⟩ => c) (us, List.replicate c0 0, c0) ?_ ?_ ?_
          · refine ⟨gu1, by simp, by omega, gu2, by simp, ?_, ?_⟩
            · rw [gu3]
              have h1 := val_lt a lm
              have h2 : 2 ^ up ≤ 2147483648 := Nat.pow_le_pow_right (by omega) (show up ≤ 31 by omega)
              have h3 : val 4294967296 a * 2 ^ up ≤ val 4294967296 a * 2147483648 := Nat.mul_le_mul_left _ h2
              have h4 : val 4294967296 a * 2147483648 < 4294967296 ^ a.length * 2147483648 := Nat.mul_lt_mul_of_pos_right h1 (by omega)
              have h5 : 4294967296 ^ a.length = 4294967296 ^ (b.length - 1) * 4294967296 ^ c0 := by rw [← Nat.pow_add]; congr 1; omega
              have h6 : 2147483648 * 4294967296 ^ (b.length - 1) ≤ V := Nat.le_trans (Nat.mul_le_mul_right _ (by omega)) hTV
              have h7 := Nat.mul_le_mul_right (4294967296 ^ c0) h6
              have h8 : 4294967296 ^ a.length * 2147483648 = 2147483648 * 4294967296 ^ (b.length - 1) * 4294967296 ^ c0 := by rw [h5]; grind
              omega
            · rw [gu3, vm]; simp [val]
          · simp [leS, hC]
          · rintro ⟨us, qs, c⟩ ⟨g1, g2, g3, g4, g5, g6, g7⟩
            cases c with
            | zero =>
              have hUV0 : val 4294967296 us < V := by simpa using g6
              have hUn : val 4294967296 (us.take b.length) = val 4294967296 us := val_low (Nat.lt_trans hUV0 hV1) (by omega)
              have hend := long_end (m := m) (n := n) (P := 2 ^ up) (U := val 4294967296 us) (Q := val 4294967296 qs) (by omega) (Nat.two_pow_pos up) (by rw [g7, hV, gv3, vn]; simp) (by rw [← vn, ← gv3, ← hV]; exact hUV0)
              simp
              refine CodeJ.draw (.qs [0, 2, 3, 4, 5] <| .l 1 [] <| .l 6 [] <| .qs [7, 8] <| .nil) (by kernel_rfl) (by kernel_rfl) (by simp) ?_
              simp
              refine ⟨by omega, ?_⟩
              refine callF (trim_ok qs (by omega)) (by simp [List.take_of_length_le, g2]) ?_
              simp
              refine callF (right_ok (us.take b.length) up (lt_take g4) hu1 (by simp; omega)) (by simp [g1, List.map_take]; omega) ?_
              rw [hUn, hend.2, ← hend.1, dig_val B2 qs g5]
              simp
            | succ j =>
              simp (disch := omega) [w64, lget_u32]
              refine CodeJ.draw (.qs [0, 1, 2, 3, 4, 5, 6, 7, 8, 9, 10, 11, 12, 13, 14, 15, 16, 17] <| .nil) (by kernel_rfl) (by kernel_rfl) (by simp) ?_
              have hbu0 := dg_lt g4 (by omega) (j + b.length)
              have hbu1 := dg_lt g4 (by omega) (j + b.length - 1)
              simp (disch := omega) [w64, lget_u32, wu64, bits_or]
              refine ⟨⟨by omega, by omega⟩, by omega, ⟨by omega, by omega⟩, by omega, ?_⟩
              refine CodeJ.draw (.qs [0, 1, 2, 3, 4, 5, 6, 7, 8, 9, 10, 11, 12, 13, 14, 15, 16, 17] <| .nil) (by kernel_rfl) (by kernel_rfl) (by simp) ?_
              simp (disch := omega) [w64, lget_u32, wu64, bits_or]
              have bv1 := dg_lt gv2 (by omega) (b.length - 1)
              have bv2 := dg_lt gv2 (by omega) (b.length - 2)
              have bu2 := dg_lt g4 (by omega) (j + b.length - 2)
              have nv1 : ¬ (dg vs (b.length - 1) : Int) = 0 := by omega
              simp (disch := omega) [w64, lget_u32, wu64, bits_or, nv1, Int.tdiv_eq_ediv_of_nonneg, Int.tmod_eq_emod_of_nonneg]
              repeat refine And.intro (by omega) ?_
              obtain ⟨S, hS, hSl, hSd, hval, hUV, hSt, hS0, hVt, hV00, hRz⟩ := long_facts B2 g4 gv2 (show j + b.length + 1 ≤ us.length by omega) gv1 (by omega) (by rw [← hV]; exact g6)
              rw [← hV] at hUV hVt
              obtain ⟨U, hU⟩ : ∃ U, U = val 4294967296 S := ⟨_, rfl⟩
              rw [← hU] at hval hUV hSt
              obtain ⟨top, htop⟩ : ∃ top, top = dg us (j + b.length) * 4294967296 + dg us (j + b.length - 1) := ⟨_, rfl⟩
              obtain ⟨v1, hv1⟩ : ∃ v1, v1 = dg vs (b.length - 1) := ⟨_, rfl⟩
              obtain ⟨v2, hv2⟩ : ∃ v2, v2 = dg vs (b.length - 2) := ⟨_, rfl⟩
              obtain ⟨u2, hu2'⟩ : ∃ u2, u2 = dg us (j + b.length - 2) := ⟨_, rfl⟩
              have hul : dg us (j + b.length) ≤ dg vs (b.length - 1) := top_le hVt hSt hV00 bv2 hUV
              have et : (dg us (j + b.length) : Int) * 4294967296 + dg us (j + b.length - 1) = top := by omega
              rw [← htop, ← hu2'] at hSt
              rw [← hv1, ← hv2] at hVt
              have hv10 : 0 < v1 := by omega
              have htop2 : top < (v1 + 1) * 4294967296 := by rw [Nat.add_mul]; omega
              have q0 : U / V ≤ top / v1 := guess_start hVt hSt hS0 (by omega) hv10
              have qB : U / V < 4294967296 := by rw [Nat.div_lt_iff_lt_mul hV0, Nat.mul_comm]; exact hUV
              have g0 : top / v1 ≤ 4294967297 := by
                have : top / v1 < 4294967298 := by
                  rw [Nat.div_lt_iff_lt_mul hv10]; omega
                omega
              have ed : (top : Int) / v1 = ((top / v1 : Nat) : Int) := by simp
              have ew : IntKind.u64.wrap ((top : Int) / v1) = (top : Int) / v1 := by
                rw [ed]
                generalize top / v1 = z at g0
                rw [wu64]; omega
              have near : ∀ g r, g * v1 + r = top → U / V ≤ g → g < 4294967296 → g * v2 ≤ r * 4294967296 + u2 → near1 (U / V) g := fun g r h1 h2 h3 h4 =>
                guess_near rfl hV0 h2 (guess_end hVt hSt hV00 hv10 (by omega) h1 h4 (by omega))
              refine CodeJ.cut (fun e st' => e = .exit 4 ∧ ∃ g : Nat, near1 (U / V) g ∧ g < 4294967296 ∧ leS C st' ⟨180, [(8, .val (.int .u64 up)), (9, .view 0 0 (a.length + 1)), (10, .view 1 0 b.length), (11, .val (.int .i64 b.length)), (12, .view 2 0 c0), (13, .val (.int .i64 j)), (15, .val (.int .u64 g))],
                [some ⟨1, us.map u32, false⟩, some ⟨1, vs.map u32, false⟩, some ⟨1, qs.map u32, false⟩]⟩) ?_ ?_
              · refine CodeJ.loop (ι := Nat × Nat) (fun ⟨g, r⟩ => ⟨180, [(8, .val (.int .u64 up)), (9, .view 0 0 (a.length + 1)), (10, .view 1 0 b.length), (11, .val (.int .i64 b.length)), (12, .view 2 0 c0), (13, .val (.int .i64 j)), (15, .val (.int .u64 g)), (16, .val (.int .u64 r))],
                    [some ⟨1, us.map u32, false⟩, some ⟨1, vs.map u32, false⟩, some ⟨1, qs.map u32, false⟩]⟩)
                  (fun ⟨g, r⟩ => g * v1 + r = top ∧ U / V ≤ g ∧ g ≤ 4294967297 ∧ r < 4294967296) (fun ⟨g, r⟩ => g) (top / v1, top % v1) ?_ ?_ ?_
                · refine ⟨?_, q0, g0, ?_⟩
                  · have := Nat.div_add_mod top v1; rw [Nat.mul_comm] at this; exact this
                  · have := Nat.mod_lt top hv10; omega
                · simp [leS, hC, et, ew, ← hv1]
                · rintro ⟨g, r⟩ ⟨k1, k2, k3, k4⟩
                  have body : ∀ g1, g = g1 + 1 → U / V < g → (g1 * v1 + (r + v1) = top ∧ U / V ≤ g1 ∧ g1 ≤ 4294967297) ∧ (4294967296 ≤ r + v1 → near1 (U / V) g1 ∧ g1 < 4294967296) := by
                    intro g1 hg1 hlt
                    subst hg1
                    have e : g1 * v1 + (r + v1) = top := by rw [← k1, Nat.add_mul]; omega
                    refine ⟨⟨e, by omega, by omega⟩, fun hr => ?_⟩
                    have hg2 : g1 < 4294967296 := by
                      have : g1 * v1 < 4294967296 * v1 := by rw [Nat.add_mul] at htop2; omega
                      exact Nat.lt_of_mul_lt_mul_right this
                    refine ⟨near g1 (r + v1) e (by omega) hg2 ?_, hg2⟩
                    have h1 : g1 * v2 ≤ 4294967296 * 4294967296 := Nat.mul_le_mul (by omega) (by omega)
                    have h2 := Nat.mul_le_mul_right 4294967296 hr
                    omega
                  simp (disch := omega)
                  refine CodeJ.draw (.qs [0, 1, 2, 3, 4, 5, 6, 7, 8, 9, 10, 11, 12, 13, 14, 15, 16, 17, 18, 19, 20, 21, 22, 23, 24] <| .nil) (by kernel_rfl) (by kernel_rfl) (by simp) ?_
                  by_cases hA : 4294967296 ≤ g
                  · obtain ⟨g1, rfl⟩ : ∃ g1, g = g1 + 1 := ⟨g - 1, by omega⟩
                    have hA' : 0 < ((g1 : Int) + 1) / 4294967296 := by omega
                    obtain ⟨⟨b1, b2, b3⟩, b4⟩ := body g1 rfl (by omega)
                    by_cases hr : 4294967296 ≤ r + v1
                    · have hr' : 0 < ((r : Int) + v1) / 4294967296 := by omega
                      simp (disch := omega) [w64, wu64, lget_u32, hA', hr', ← hv1]
                      refine ⟨by omega, by omega, g1, (b4 hr).1, (b4 hr).2, by simp [leS, hC]⟩
                    · have hr' : ¬ 0 < ((r : Int) + v1) / 4294967296 := by omega
                      simp (disch := omega) [w64, wu64, lget_u32, hA', hr', ← hv1]
                      refine ⟨by omega, by omega, g1, r + v1, ⟨b1, b2, b3, by omega⟩, by omega, by simp [leS, hC]⟩
                  · have hA' : ¬ 0 < (g : Int) / 4294967296 := by omega
                    have hgv : g * v2 ≤ 4294967295 * 4294967295 := Nat.mul_le_mul (by omega) (by omega)
                    have hgv' : (g : Int) * v2 ≤ 18446744065119617025 := by rw [← Int.natCast_mul]; omega
                    have hgv0 : (0 : Int) ≤ (g : Int) * v2 := by rw [← Int.natCast_mul]; omega
                    by_cases hB : r * 4294967296 + u2 < g * v2
                    · have hBI : (r : Int) * 4294967296 + u2 < (g : Int) * v2 := by rw [← Int.natCast_mul]; omega
                      have hql : U / V < g := guess_dec hVt hSt hS0 (Nat.div_mul_le_self U V) k1 hB
                      have hg0 : 0 < g := Nat.lt_of_le_of_lt (Nat.zero_le _) hql
                      obtain ⟨g1, rfl⟩ : ∃ g1, g = g1 + 1 := ⟨g - 1, by omega⟩
                      obtain ⟨⟨b1, b2, b3⟩, b4⟩ := body g1 rfl hql
                      have hA2 : ¬ 0 < ((g1 : Int) + 1) / 4294967296 := by omega
                      have hcast : ((g1 + 1 : Nat) : Int) * v2 = ((g1 : Int) + 1) * v2 := by push_cast; rfl
                      rw [hcast] at hgv' hgv0
                      have hB' := hBI
                      rw [hcast] at hB'
                      by_cases hr : 4294967296 ≤ r + v1
                      · have hr' : 0 < ((r : Int) + v1) / 4294967296 := by omega
                        simp (disch := omega) [w64, wu64, lget_u32, bits_or, hA2, hB', hr', ← hv1, ← hv2, ← hu2']
                        refine ⟨by omega, by omega, by omega, by omega, by omega, by omega, g1, (b4 hr).1, (b4 hr).2, by simp [leS, hC]⟩
                      · have hr' : ¬ 0 < ((r : Int) + v1) / 4294967296 := by omega
                        simp (disch := omega) [w64, wu64, lget_u32, bits_or, hA2, hB', hr', ← hv1, ← hv2, ← hu2']
                        refine ⟨by omega, by omega, by omega, by omega, by omega, by omega, g1, r + v1, ⟨b1, b2, b3, by omega⟩, by omega, by simp [leS, hC]⟩
                    · have hB' : ¬ (r : Int) * 4294967296 + u2 < (g : Int) * v2 := by rw [← Int.natCast_mul]; omega
                      simp (disch := omega) [w64, wu64, lget_u32, bits_or, hA', hB', ← hv1, ← hv2, ← hu2']
                      refine ⟨by omega, by omega, by omega, by omega, g, near g r k1 k2 (by omega) (by omega), by omega, by simp [leS, hC]⟩
              · rintro e st' ⟨rfl, g, hg, hgB, hle⟩
                refine ⟨_, hle, ?_⟩
                simp (disch := omega) [w64]
                refine ⟨by omega, ?_⟩
                have husS : us = us.take j ++ (S ++ us.drop (j + b.length + 1)) := by
                  have : us.drop (j + b.length + 1) = (us.drop j).drop (b.length + 1) := by rw [List.drop_drop, Nat.add_assoc]
                  rw [hS, this, List.take_append_drop, List.take_append_drop]
                have hVP : V ≤ 4294967296 ^ S.length := by
                  rw [hSl, Nat.pow_succ]; omega
                have fin : ∀ o', o'.length = S.length → (∀ d ∈ o', d < 4294967296) → val 4294967296 o' = U % V →
                    (us.take j ++ (o' ++ us.drop (j + b.length + 1))).length = a.length + 1 ∧ (qs.set j (U / V)).length = c0 ∧ j ≤ c0 ∧ (∀ d ∈ us.take j ++ (o' ++ us.drop (j + b.length + 1)), d < 4294967296) ∧ (∀ d ∈ qs.set j (U / V), d < 4294967296) ∧
                    val 4294967296 (us.take j ++ (o' ++ us.drop (j + b.length + 1))) < V * 4294967296 ^ j ∧ m * 2 ^ up = val 4294967296 (us.take j ++ (o' ++ us.drop (j + b.length + 1))) + V * (4294967296 ^ j * val 4294967296 ((qs.set j (U / V)).drop j)) := by
                  intro o' h1 h2 h3
                  have hv : val 4294967296 (us.take j ++ (o' ++ us.drop (j + b.length + 1))) = val 4294967296 (us.take j) + 4294967296 ^ j * (U % V) := by
                    rw [val_app, val_app, hRz, h3, List.length_take, Nat.min_eq_left (by omega)]; simp
                  have hL := val_take_lt g4 (show j ≤ us.length by omega)
                  have hr := Nat.mod_lt U hV0
                  refine ⟨by simp; omega, by simpa using g2, by omega, ?_, lt_set _ g5 qB, ?_, ?_⟩
                  · intro d hd
                    rcases List.mem_append.1 hd with hd | hd
                    · exact lt_take g4 d hd
                    · rcases List.mem_append.1 hd with hd | hd
                      · exact h2 d hd
                      · exact lt_drop g4 d hd
                  · rw [hv]
                    have := Nat.mul_le_mul_left (4294967296 ^ j) (show U % V + 1 ≤ V from hr)
                    rw [Nat.mul_add, Nat.mul_one, Nat.mul_comm (4294967296 ^ j) V] at this
                    omega
                  · rw [hv, val_drop _ (qs.set j (U / V)), dg_set _ (by omega), if_pos rfl, drop_set_succ]
                    rw [hval, Nat.pow_succ] at g7
                    exact long_next g7 (Nat.div_add_mod U V).symm
                refine takeAway_here ((us.take j).map u32) ((us.drop (j + b.length + 1)).map u32) S vs g ?_ (by simp [tget]) (by omega) (by simp; omega) (by omega) gv1.symm hSd gv2 hgB (by omega) (by omega) (fun o bw ho1 ho2 ho3 ho4 => ?_)
                · simp only [tget]
                  rw [← List.map_append, ← List.map_append, ← husS]
                · rw [← hU, ← hV] at ho4
                  by_cases hbw : 0 < bw
                  · obtain rfl : bw = 1 := by omega
                    simp (disch := omega) [w64, wu64]
                    refine ⟨by omega, ?_⟩
                    refine giveBack_here ((us.take j).map u32) ((us.drop (j + b.length + 1)).map u32) o vs ?_ (by simp [tget]) (by omega) (by simp; omega) (by omega) gv1.symm ho2 gv2 (by omega) (by omega) (fun o' c1 hp1 hp2 hp3 => ?_)
                    · simp [tget]
                    · rw [← hV, ho1] at hp3
                      obtain ⟨f1, f2⟩ := take_one hV0 hVP hg (by simpa using ho4) (by rw [← ho1]; exact val_lt o ho2) hp3 (by rw [← ho1, ← hp1]; exact val_lt o' hp2)
                      obtain ⟨G1, G2, G3, G4, G5, G6, G7⟩ := fin o' (by omega) hp2 f2
                      generalize U / V = q at *
                      subst f1
                      have eq1 : (q : Int) % 4294967296 = q := by omega
                      simp (disch := omega) [w64, wu64, u32w, lget_u32, eq1]
                      refine ⟨by omega, by omega, _, qs.set j q, j, ⟨G1, G2, G3, G4, G5, G6, G7⟩, by omega, by simp [leS, hC, lset_eq]⟩
                  · obtain rfl : bw = 0 := by omega
                    obtain ⟨f1, f2⟩ := take_zero hV0 hg (by simpa using ho4)
                    obtain ⟨G1, G2, G3, G4, G5, G6, G7⟩ := fin o (by omega) ho2 f2
                    generalize U / V = q at *
                    subst f1
                    have eq1 : (g : Int) % 4294967296 = g := by omega
                    simp (disch := omega) [w64, wu64, u32w, lget_u32, eq1]
                    refine ⟨by omega, by omega, _, qs.set j g, j, ⟨G1, G2, G3, G4, G5, G6, G7⟩, by omega, by simp [leS, hC, lset_eq]⟩
end Go.Proofs
