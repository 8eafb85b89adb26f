/- What functions of the given program return (read_ok), for arguments within the bounds that each theorem names. A text of the prover's own. -/
import Derived.Test.YtgiagombkgjhfaaDoorFp
import Derived.Test.YtgiagombkgjhfaaDoorRd
namespace Go.Proofs
open Go.Sv Go Go.Pl
/-- *api.Fault -/
def tFault : Nat := 105
/-- the error of that kind -/
def gErr (c : Nat) : Nat := if c = 1 then 0 else if c = 2 then 2 else 3
/-- a fault's error -/
def errSV (c a : Nat) : SV := if c = 0 then .val .nilIface else .ifc tFault (.rop (.agg [.val (.int .i64 a), .sen sent (gErr c)]) 0)
theorem fit_rd (s : ByteArray) : fit (rd s).1 := by
  exact Nat.le_trans (wid_base (by omega) (by omega) _) (Nat.le_trans (rd_abs s) (by omega))
end Go.Proofs
namespace Go.Sv
@[simp] theorem sen_csz (t g : Nat) : (SV.sen t g).csz = 1 := rfl
@[simp] theorem sen_isTup (t g : Nat) : (SV.sen t g).isTup = false := rfl
@[simp] theorem sen_isAgg (t g : Nat) : (SV.sen t g).isAgg = false := rfl
@[simp] theorem sen_one (t g : Nat) : (SV.sen t g).one = true := rfl
@[simp] theorem sen_pure (t g : Nat) : (SV.sen t g).pure = true := rfl
@[simp] theorem sen_lt (n t g : Nat) : (SV.sen t g).lt n = true := rfl
@[simp] theorem sen_uses (k t g : Nat) : (SV.sen t g).uses k = false := rfl
@[simp] theorem sen_ks (t g : Nat) : (SV.sen t g).ks = [] := rfl
@[simp] theorem sen_cells (t g : Nat) : (SV.sen t g).cells = [.sen t g] := rfl
end Go.Sv
namespace Go.Proofs
open Go.Sv Go Go.Pl
set_option maxRecDepth 20000 in
theorem read_ok (s : ByteArray) (hs : s.size ≤ 4611686018427387904) : PureF Tryd.prog 20 [.val (.string s)] (.tup [zsv (rd s).1, errSV (rd s).2.1 (rd s).2.2]) := by
  refine pure_enter Tryd.func20 rfl (by simp) (fun C hC => ?_)
  have pre : (0 < s.size ∧ sget s 0 = 45 ∧ minus s ∧ sgnAt s = 1) ∨ (0 < s.size ∧ ¬ ((sget s 0).toNat : Int) = 45 ∧ ¬ minus s ∧ sgnAt s = 0) ∨ (¬ 0 < s.size ∧ True ∧ ¬ minus s ∧ sgnAt s = 0) := by
    by_cases h1 : 0 < s.size
    · by_cases h2 : sget s 0 = 45
      · have hm : minus s := ⟨h1, by simp [byt, h2]⟩
        exact .inl ⟨h1, h2, hm, by simp [sgnAt, hm]⟩
      · have hm : ¬ minus s := fun h => h2 (UInt8.toNat_inj.1 h.2)
        exact .inr (.inl ⟨h1, fun h => h2 (UInt8.toNat_inj.1 (Int.ofNat.inj h)), hm, by simp [sgnAt, hm]⟩)
    · have hm : ¬ minus s := fun h => h1 h.1
      exact .inr (.inr ⟨h1, trivial, hm, by simp [sgnAt, hm]⟩)
  rcases pre with ⟨h1, h2, hm, ha⟩ | ⟨h1, h2, hm, ha⟩ | ⟨h1, h2, hm, ha⟩
  rotate_left 2
  · have hf : rd s = (0, 1, 0) := by
      have : dend s 0 = 0 := dend_eq (Nat.le_refl _) (fun i h1 h2 => by omega) (fun h => h1 h.1)
      unfold rd; rw [ha, this]; simp
    simp [h1]
    refine CodeJ.loop (ι := Unit) (fun _ => ⟨70, [(0, .val (.string s)), (2, .ptr 0 0 0), (3, .val .nilIface), (4, .val (.int .i64 0)), (5, .val (.bool false)), (6, .val (.int .i64 0)), (7, .val (.slice none 0 0))], [some ⟨2, [.agg [.val (.bool false), .val (.slice none 0 0)]], false⟩]⟩)
      (fun _ => True) (fun _ => 0) () trivial (by simp [leS, hC]) (fun _ _ => ?_)
    simp [h1]
    refine CodeJ.draw (.qs [0, 1] <| .q 2 [0] <| .qs [3] <| .m 4 [] (.qs [5] <| .l 6 [0] <| .qs [7] <| .nil) 6 [0] (.l 4 [] <| .qs [5, 7] <| .nil)) (by kernel_rfl) (by kernel_rfl) (by simp) ?_
    simp [hf, errSV, tFault, gErr, zsv, dig_zero]
  all_goals
    simp [h1, h2]
    first | (refine CodeJ.nil 7 1 rfl ?_) | (intro _; refine CodeJ.nil 7 1 rfl ?_)
    refine CodeJ.loop (ι := Nat × List Nat) (fun ⟨a, l⟩ => ⟨70, [(0, .val (.string s)), (2, .ptr 0 0 0), (3, .val .nilIface), (4, .val (.int .i64 a)), (5, .val (.bool (decide (minus s)))), (6, .val (.int .i64 (sgnAt s : Nat))), (7, .view 1 0 l.length)],
        [some ⟨2, [.agg [.val (.bool false), .val (.slice none 0 0)]], false⟩, some ⟨1, l.map u32, false⟩]⟩)
      (fun ⟨a, l⟩ => sgnAt s ≤ a ∧ a ≤ sgnAt s + 300 ∧ a ≤ s.size ∧ (∀ i, sgnAt s ≤ i → i < a → digAt s i) ∧ (∀ d ∈ l, d < 4294967296) ∧ l.length ≤ a ∧ val 4294967296 l = nv s (sgnAt s) (a - sgnAt s))
      (fun ⟨a, l⟩ => s.size - a) (sgnAt s, []) ?_ ?_ ?_
    · exact ⟨by omega, by omega, sgnAt_le s, fun i h1 h2 => by omega, by simp, by simp, by simp [val, nv]⟩
    · simp [leS, hC, ha, hm]
    · rintro ⟨a, l⟩ ⟨g1, g2, g3, g4, g5, g6, g7⟩
      have hd' : ∀ a, IntKind.u32.wrap (IntKind.u8.wrap (((sget s a).toNat : Int) - 48)) = (((sget s a).toNat : Int) - 48) % 256 := by intro a; rw [u8w, u32w]; omega
      by_cases hlt : a < s.size
      · by_cases hd : isDig (byt s a)
        · have hc1 : (48 : Int) ≤ (sget s a).toNat := by have := hd.1; unfold byt at this; omega
          have hc2 : ((sget s a).toNat : Int) ≤ 57 := by have := hd.2; unfold byt at this; omega
          have gnext : ∀ i, sgnAt s ≤ i → i < a + 1 → digAt s i := fun i h1 h2 => by
            by_cases e : i = a
            · rw [e]; exact ⟨hlt, hd⟩
            · exact g4 i h1 (by omega)
          by_cases hb : a - sgnAt s = 300
          · have hb' : (a : Int) - sgnAt s = 300 := by omega
            have hf : rd s = (0, 2, a) := by
              have := dend_gt g1 (fun i h1 h2 => gnext i h1 (by omega))
              unfold rd
              rw [if_pos (by omega), show sgnAt s + 300 = a by omega]
            simp (disch := omega) [hlt, hc1, hc2, w64, hb']
            refine CodeJ.draw (.qs [0, 1] <| .q 2 [0] <| .qs [3] <| .m 4 [] (.qs [5] <| .l 6 [0] <| .qs [7] <| .nil) 6 [0] (.l 4 [] <| .qs [5, 7] <| .nil)) (by kernel_rfl) (by kernel_rfl) (by simp) ?_
            simp [hf, errSV, tFault, gErr, zsv, dig_zero]
          · have hb' : ¬ (a : Int) - sgnAt s = 300 := by omega
            simp (disch := omega) [hlt, hc1, hc2, w64, hb']
            refine timesPlus_here l 10 (byt s a - 48) (by rw [hd']; unfold byt; omega) rfl (by simp [tget]) (by omega) g5 (by omega) (by have := hd.2; omega) (by simp [hC]) (by intro xs; simp [nouse, tset, SV.usesL, SV.uses, usesL_map]) (fun l' J k1 k2 k3 => ?_)
            simp (disch := omega) [w64]
            refine ⟨a + 1, l', ⟨by omega, by omega, by omega, gnext, k1, by omega, ?_⟩, by omega, by simp [leS, hC]⟩
            rw [k3, g7, show a + 1 - sgnAt s = (a - sgnAt s) + 1 by omega, nv, show sgnAt s + (a - sgnAt s) = a by omega]
        · have hnd : ¬ digAt s a := fun h => hd h.2
          have hE : dend s (sgnAt s) = a := dend_eq g1 g4 hnd
          have hf : rd s = (0, 1, a) := by
            unfold rd
            rw [hE, if_neg (by omega), if_pos (.inr hlt)]
          by_cases hs1 : a = sgnAt s
          · subst hs1
            by_cases hc1 : (48 : Int) ≤ (sget s (sgnAt s)).toNat
            · have hc2 : ¬ ((sget s (sgnAt s)).toNat : Int) ≤ 57 := fun h => hd ⟨by unfold byt; omega, by unfold byt; omega⟩
              simp (disch := omega) [hlt, hc1, hc2, w64]
              refine CodeJ.draw (.qs [0, 1] <| .q 2 [0] <| .qs [3] <| .m 4 [] (.qs [5] <| .l 6 [0] <| .qs [7] <| .nil) 6 [0] (.l 4 [] <| .qs [5, 7] <| .nil)) (by kernel_rfl) (by kernel_rfl) (by simp) ?_
              simp [hf, errSV, tFault, gErr, zsv, dig_zero]
            · simp (disch := omega) [hlt, hc1, w64]
              refine CodeJ.draw (.qs [0, 1] <| .q 2 [0] <| .qs [3] <| .m 4 [] (.qs [5] <| .l 6 [0] <| .qs [7] <| .nil) 6 [0] (.l 4 [] <| .qs [5, 7] <| .nil)) (by kernel_rfl) (by kernel_rfl) (by simp) ?_
              simp [hf, errSV, tFault, gErr, zsv, dig_zero]
          · have hs2 : ¬ (a : Int) = sgnAt s := by omega
            by_cases hc1 : (48 : Int) ≤ (sget s a).toNat
            · have hc2 : ¬ ((sget s a).toNat : Int) ≤ 57 := fun h => hd ⟨by unfold byt; omega, by unfold byt; omega⟩
              simp (disch := omega) [hlt, hc1, hc2, hs2, w64]
              refine CodeJ.draw (.qs [0, 1] <| .q 2 [0] <| .qs [3] <| .m 4 [] (.qs [5] <| .l 6 [0] <| .qs [7] <| .nil) 6 [0] (.l 4 [] <| .qs [5, 7] <| .nil)) (by kernel_rfl) (by kernel_rfl) (by simp) ?_
              simp [hf, errSV, tFault, gErr, zsv, dig_zero]
            · simp (disch := omega) [hlt, hc1, hs2, w64]
              refine CodeJ.draw (.qs [0, 1] <| .q 2 [0] <| .qs [3] <| .m 4 [] (.qs [5] <| .l 6 [0] <| .qs [7] <| .nil) 6 [0] (.l 4 [] <| .qs [5, 7] <| .nil)) (by kernel_rfl) (by kernel_rfl) (by simp) ?_
              simp [hf, errSV, tFault, gErr, zsv, dig_zero]
      · obtain rfl : a = s.size := by omega
        have hnd : ¬ digAt s s.size := fun h => by have := h.1; omega
        have hE : dend s (sgnAt s) = s.size := dend_eq g1 g4 hnd
        by_cases hs1 : s.size = sgnAt s
        · have hf : rd s = (0, 1, s.size) := by
            unfold rd
            rw [hE, if_neg (by omega), if_pos (.inl hs1)]
          have hs2 : (s.size : Int) = sgnAt s := by omega
          simp (disch := omega) [hs2, w64]
          refine CodeJ.draw (.qs [0, 1] <| .q 2 [0] <| .qs [3] <| .m 4 [] (.qs [5] <| .l 6 [0] <| .qs [7] <| .nil) 6 [0] (.l 4 [] <| .qs [5, 7] <| .nil)) (by kernel_rfl) (by kernel_rfl) (by simp) ?_
          simp [hf, errSV, tFault, gErr, zsv, dig_zero]
          exact hs2.symm
        · have hs2 : ¬ (s.size : Int) = sgnAt s := by omega
          have hf : rd s = ((if minus s then -(nv s (sgnAt s) (s.size - sgnAt s) : Int) else (nv s (sgnAt s) (s.size - sgnAt s) : Int)), 0, 0) := by
            unfold rd
            rw [hE, if_neg (by omega), if_neg (by omega)]
          have hmd := made_ok (decide (minus s)) l (by omega) g5
          rw [g7] at hmd
          simp (disch := omega) [hs2, w64]
          refine callF hmd (by simp [List.take_of_length_le]) ?_
          simp [hf, errSV]
end Go.Proofs
