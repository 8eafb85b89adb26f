/- What functions of the given program return (text_ok), for arguments within the bounds that each theorem names. A text of the prover's own. -/
import Derived.Test.YtgiagombkgjhfaaDoorFq
import Derived.Test.YtgiagombkgjhfaaDoorTx
namespace Go.Proofs
open Go.Sv Go Go.Pl
set_option maxRecDepth 20000 in
theorem text_ok (x : Int) (hx : fit x) : PureF Tryd.prog 15 [zsv x] (.val (.string (txt x))) := by
  refine pure_enter Tryd.func15 rfl (by simp) (fun C hC => ?_)
  by_cases h0 : x = 0
  · subst h0
    simp [zsv, dig_zero]
    rfl
  · have hne : ¬ (dig 4294967296 x.natAbs) = [] := fun h => by have := (dig_eq_nil (by omega)).1 h; omega
    have hw : wid 10 x.natAbs ≤ 10000000000000 := Nat.le_trans (wid_ten _) (by unfold fit at hx; omega)
    have hx' := hx
    simp only [fit, wid] at hx'
    simp [zsv, hne]
    refine ⟨by omega, ?_⟩
    refine CodeJ.nil 4 1 rfl ?_
    refine CodeJ.loop (ι := Nat × List Nat × List Nat) (fun ⟨n, r, o⟩ => ⟨73, [(1, .ptr 0 0 0), (3, .view 1 0 (dig 4294967296 n).length), (4, .view 2 0 o.length)],
        [some ⟨2, [.agg [.val (.bool (decide (x < 0))), .ro ((dig 4294967296 x.natAbs).map u32)]], false⟩, some ⟨1, (dig 4294967296 n).map u32 ++ r.map u32, false⟩, some ⟨1, (o.map (48 + ·)).map u8, false⟩]⟩)
      (fun ⟨n, r, o⟩ => wid 4294967296 n ≤ 1000000000000 ∧ dig 10 x.natAbs = o ++ dig 10 n)
      (fun ⟨n, r, o⟩ => n) (x.natAbs, [], []) ?_ ?_ ?_
    · exact ⟨hx, by simp⟩
    · simp [leS, hC]
    · rintro ⟨n, r, o⟩ ⟨h1, h2⟩
      have ho : o.length ≤ 10000000000000 := by
        have := congrArg List.length h2
        simp only [wid] at hw
        simp at this; omega
      by_cases hn : n = 0
      · subst hn
        simp [dig_zero] at h2
        subst h2
        have key : ∀ (L : List Nat), (if x < 0 then [45] else []) ++ (dig 10 x.natAbs).reverse.map (48 + ·) = L.reverse → txt x = strOf (L.reverse.map u8) := fun L hL => by
          unfold txt txtL; rw [if_neg h0, hL]
        have hlen : 0 < (dig 10 x.natAbs).length := List.length_pos_iff.2 fun h => by have := (dig_eq_nil (by omega)).1 h; omega
        obtain ⟨L, hL1, hL2⟩ : ∃ L : List Nat, L = (dig 10 x.natAbs).map (48 + ·) ++ (if x < 0 then [45] else []) ∧ (∀ d ∈ L, d < 256) := by
          refine ⟨_, rfl, fun d hd => ?_⟩
          rcases List.mem_append.1 hd with hd | hd
          · obtain ⟨e, he, rfl⟩ := List.mem_map.1 hd
            have := dig_lt (B := 10) (by omega) x.natAbs e he; omega
          · split at hd <;> simp at hd; omega
        have hL3 : L.length ≤ 10000000000001 := by rw [hL1]; split <;> simp <;> omega
        have hL4 : 0 < L.length := by rw [hL1]; simp; omega
        have hL5 := key L (by rw [hL1]; split <;> simp [List.map_reverse])
        by_cases hneg : x < 0
        · rw [if_pos hneg] at hL1
          have e1 : (L.length : Int) = (dig 10 x.natAbs).length + 1 := by rw [hL1]; simp
          simp (disch := omega) [dig_zero, hneg, hC, w64]
          refine ⟨by omega, ?_⟩
          have he : (dig 10 x.natAbs).length + 1 = L.length := by omega
          rw [he]
          refine CodeJ.loop (ι := List Nat × Nat) (fun ⟨b, i⟩ => ⟨73, [(4, .view 2 0 L.length), (6, .val (.int .i64 i)), (7, .val (.int .i64 ((L.length : Int) - 1 - i)))], [none, none, some ⟨1, b.map u8, false⟩]⟩)
            (fun ⟨b, i⟩ => halfRev L b i ∧ i ≤ L.length) (fun ⟨b, i⟩ => L.length - i) (L, 0) ?_ ?_ ?_
          · exact ⟨halfRev_zero L, by omega⟩
          · simp [leS, hC, hL1]
          · rintro ⟨b, i⟩ ⟨m1, m2⟩
            have m3 := m1.1
            by_cases hi : i < L.length - 1 - i
            · have hi' : (i : Int) < (L.length : Int) - 1 - i := by omega
              have hj : ((L.length : Int) - 1 - i).toNat = L.length - 1 - i := by omega
              simp [hi']
              refine CodeJ.draw (.qs [0, 1, 2, 3, 4, 5, 6, 7, 8, 9, 10, 11, 12] <| .l 13 [2] <| .qs [14] <| .l 15 [2] <| .nil) (by kernel_rfl) (by kernel_rfl) (by simp) ?_
              have hl2 : L.length - 1 - i < (b.set i (dg b (L.length - 1 - i))).length := by simp; omega
              simp (disch := omega) [w64, lget_u8, hj, lset_u8, -List.map_set]
              repeat refine And.intro (by omega) ?_
              refine ⟨_, i + 1, ⟨halfRev_step m1 hi, by omega⟩, by omega, ?_⟩
              have e7 : (L.length : Int) - 1 - i - 1 = L.length - 1 - (i + 1) := by omega
              simp [leS, hC, e7, lset_eq]
            · have hi' : ¬ (i : Int) < (L.length : Int) - 1 - i := by omega
              simp [hi']
              have hb := halfRev_end m1 (by omega)
              subst hb
              simp [hL5, List.take_of_length_le, byteSV]
        · rw [if_neg hneg, List.append_nil] at hL1
          have e1 : (L.length : Int) = (dig 10 x.natAbs).length := by rw [hL1]; simp
          simp (disch := omega) [dig_zero, hneg, w64]
          refine CodeJ.loop (ι := List Nat × Nat) (fun ⟨b, i⟩ => ⟨73, [(4, .view 2 0 L.length), (6, .val (.int .i64 i)), (7, .val (.int .i64 ((L.length : Int) - 1 - i)))], [none, none, some ⟨1, b.map u8, false⟩]⟩)
            (fun ⟨b, i⟩ => halfRev L b i ∧ i ≤ L.length) (fun ⟨b, i⟩ => L.length - i) (L, 0) ?_ ?_ ?_
          · exact ⟨halfRev_zero L, by omega⟩
          · simp [leS, hC, hL1]
          · rintro ⟨b, i⟩ ⟨m1, m2⟩
            have m3 := m1.1
            by_cases hi : i < L.length - 1 - i
            · have hi' : (i : Int) < (L.length : Int) - 1 - i := by omega
              have hj : ((L.length : Int) - 1 - i).toNat = L.length - 1 - i := by omega
              simp [hi']
              refine CodeJ.draw (.qs [0, 1, 2, 3, 4, 5, 6, 7, 8, 9, 10, 11, 12] <| .l 13 [2] <| .qs [14] <| .l 15 [2] <| .nil) (by kernel_rfl) (by kernel_rfl) (by simp) ?_
              have hl2 : L.length - 1 - i < (b.set i (dg b (L.length - 1 - i))).length := by simp; omega
              simp (disch := omega) [w64, lget_u8, hj, lset_u8, -List.map_set]
              repeat refine And.intro (by omega) ?_
              refine ⟨_, i + 1, ⟨halfRev_step m1 hi, by omega⟩, by omega, ?_⟩
              have e7 : (L.length : Int) - 1 - i - 1 = L.length - 1 - (i + 1) := by omega
              simp [leS, hC, e7, lset_eq]
            · have hi' : ¬ (i : Int) < (L.length : Int) - 1 - i := by omega
              simp [hi']
              have hb := halfRev_end m1 (by omega)
              subst hb
              simp [hL5, List.take_of_length_le, byteSV]
      · have hl : 0 < (dig 4294967296 n).length := List.length_pos_iff.2 fun h => hn ((dig_eq_nil (by omega)).1 h)
        simp [hl]
        refine short_here (dig 4294967296 n) (r.map u32) 1000000000 (by simp [tget]) (by simp only [wid] at h1; omega) (dig_lt (by omega) n) (by omega) (by simp) (fun q g1 g2 g3 => ?_)
        rw [val_dig (by omega)] at g3 ⊢
        simp
        obtain ⟨n', hn'⟩ : ∃ n', n' = n / 1000000000 := ⟨_, rfl⟩
        obtain ⟨r0, hr0⟩ : ∃ r0, r0 = n % 1000000000 := ⟨_, rfl⟩
        have hq : trimL q = dig 4294967296 n' := by rw [hn', ← g3, dig_val (by omega) q g1]
        have hqs : q = dig 4294967296 n' ++ q.drop (dig 4294967296 n').length := by
          have := trimL_take q
          rw [hq] at this
          conv => lhs; rw [← List.take_append_drop (dig 4294967296 n').length q, this]
        have er : (n : Int) % 1000000000 = r0 := by omega
        rw [hq]
        simp only [er]
        obtain ⟨r', hr'⟩ : ∃ r', r' = q.drop (dig 4294967296 n').length ++ r := ⟨_, rfl⟩
        refine CodeJ.loop (ι := Nat × Nat × List Nat) (fun ⟨k, e, o'⟩ => ⟨73, [(1, .ptr 0 0 0), (3, .view 1 0 (dig 4294967296 n').length), (4, .view 2 0 o'.length), (5, .val (.int .u32 e)), (23, .val (.int .i64 k))],
            [some ⟨2, [.agg [.val (.bool (decide (x < 0))), .ro ((dig 4294967296 x.natAbs).map u32)]], false⟩, some ⟨1, (dig 4294967296 n').map u32 ++ r'.map u32, false⟩, some ⟨1, (o'.map (48 + ·)).map u8, false⟩]⟩)
          (fun ⟨k, e, o'⟩ => k ≤ 9 ∧ e < 10 ^ (9 - k) ∧ dig 10 x.natAbs = o' ++ dig 10 (e + 10 ^ (9 - k) * n') ∧ (k < 9 → 0 < e + 10 ^ (9 - k) * n'))
          (fun ⟨k, e, o'⟩ => 9 - k) (0, r0, o) ?_ ?_ ?_
        · have : r0 + 1000000000 * n' = n := by omega
          refine ⟨by omega, by simp; omega, by simpa [this] using h2, by simp [this]; omega⟩
        · have : q.map u32 ++ r.map u32 = (dig 4294967296 n').map u32 ++ r'.map u32 := by
            rw [hr', List.map_append, ← List.append_assoc, ← List.map_append (l₁ := dig 4294967296 n'), ← hqs]
          simp [leS, hC, this]
        · rintro ⟨k, e, o'⟩ ⟨k1, k2, k3, k4⟩
          have ho' : o'.length ≤ 10000000000000 := by
            have := congrArg List.length k3
            simp only [wid] at hw
            simp at this; omega
          by_cases hk : k < 9
          · obtain ⟨t1, t2⟩ := ten_step (r := e) (n := n') hk
            have k5 := k4 hk
            rw [dig_step k5, t1, t2] at k3
            have he10 : e < 4294967296 := Nat.lt_of_lt_of_le k2 (Nat.le_trans (Nat.pow_le_pow_right (by omega) (show 9 - k ≤ 9 by omega)) (by omega))
            have hk' : (k : Int) < 9 := by omega
            obtain ⟨d1, hd1⟩ : ∃ d1, d1 = e / 10 := ⟨_, rfl⟩
            obtain ⟨d0, hd0⟩ : ∃ d0, d0 = e % 10 := ⟨_, rfl⟩
            have f1 : (e : Int) / 10 = d1 := by omega
            have f2 : (e : Int) % 10 = d0 := by omega
            have f3 : (d1 : Int) % 4294967296 = d1 := by omega
            have f4 : (48 + (d0 : Int)) % 4294967296 = 48 + d0 := by omega
            have f5 : (48 + (d0 : Int)) % 256 = 48 + d0 := by omega
            rw [← hd1, ← hd0] at k3
            rw [← hd1] at t2
            have hd1lt : d1 < 10 ^ (9 - (k + 1)) := by
              have : (10 : Nat) ^ (9 - k) = 10 ^ (9 - (k + 1)) * 10 := by rw [← Nat.pow_succ]; congr 1; omega
              omega
            have hwn' : wid 4294967296 n' ≤ 1000000000000 := Nat.le_trans (wid_mono (by omega) (by rw [hn']; exact Nat.div_le_self _ _)) h1
            by_cases hz1 : n' = 0
            · have hzd : dig 4294967296 n' = [] := by rw [hz1, dig_zero]
              by_cases hz2 : d1 = 0
              · simp (disch := omega) [hk', Int.tmod_eq_emod_of_nonneg, Int.tdiv_eq_ediv_of_nonneg, u32w, u8w, w64, hC, f1, f2, f3, f4, f5, hzd, hz2]
                refine ⟨by omega, 0, r', o' ++ [d0], ⟨by simp [wid, dig_zero], ?_⟩, by omega, by simp [leS, hC, dig_zero]⟩
                rw [k3, hz1, hz2]; simp [dig_zero]
              · simp (disch := omega) [hk', Int.tmod_eq_emod_of_nonneg, Int.tdiv_eq_ediv_of_nonneg, u32w, u8w, w64, hC, f1, f2, f3, f4, f5, hzd, hz2]
                refine ⟨by omega, k + 1, d1, o' ++ [d0], ⟨by omega, hd1lt, by rw [k3]; simp, fun _ => by omega⟩, by omega, by simp [leS, hC]⟩
            · have hzd : ¬ dig 4294967296 n' = [] := fun h => hz1 ((dig_eq_nil (by omega)).1 h)
              simp (disch := omega) [hk', Int.tmod_eq_emod_of_nonneg, Int.tdiv_eq_ediv_of_nonneg, u32w, u8w, w64, hC, f1, f2, f3, f4, f5, hzd]
              refine ⟨by omega, k + 1, d1, o' ++ [d0], ⟨by omega, hd1lt, by rw [k3]; simp, fun _ => ?_⟩, by omega, by simp [leS, hC]⟩
              have := Nat.mul_pos (Nat.pow_pos (n := 9 - (k + 1)) (show 0 < 10 by omega)) (show 0 < n' by omega)
              omega
          · obtain rfl : k = 9 := by omega
            simp at k2 k3
            subst k2
            simp at k3
            simp
            refine ⟨n', r', o', ⟨Nat.le_trans (wid_mono (by omega) (by rw [hn']; exact Nat.div_le_self _ _)) h1, k3⟩, by omega, by simp [leS, hC]⟩
end Go.Proofs
