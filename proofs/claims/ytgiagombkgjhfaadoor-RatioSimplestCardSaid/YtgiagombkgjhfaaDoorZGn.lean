/- What the law RatioSimplest returns. A text of the prover's own. -/
import Derived.Test.YtgiagombkgjhfaaDoorZQo
namespace Go.Proofs
open Go.Sv Go Go.Pl
set_option maxRecDepth 20000 in
theorem ratioSimplest_ok (s t : ByteArray) (hs : s.size ≤ 4611686018427387904) (ht : t.size ≤ 4611686018427387904) :
    PureF Tryd.prog 10 [.val (.string s), .val (.string t)] (.val (.bool true)) := by
  refine pure_enter Tryd.func10 rfl (by simp) (fun C hC => ?_)
  have fx := qw_qrd s
  have fy := qw_qrd t
  have r1 := pQRead_ok s hs
  have r2 := pQRead_ok t ht
  have q1 := qRead_ok s hs
  have q2 := qRead_ok t ht
  unfold outP at r1 r2
  unfold outQ at q1 q2
  generalize (qrd 300 s).1 = x at *
  generalize (qrd 300 t).1 = y at *
  generalize (qrd 300 s).2.1 = c at *
  generalize (qrd 300 t).2.1 = c' at *
  generalize (qrd 300 s).2.2 = a at *
  generalize (qrd 300 t).2.2 = a' at *
  by_cases k1 : c = 0
  · by_cases k2 : c' = 0
    · subst k1 k2
      rw [if_pos rfl, if_pos rfl] at r1 r2
      have sq := qSimplest_ok x y (qw_mono fx (by omega)) (qw_mono fy (by omega))
      have sp := pSimplest_ok x y (qw_mono fx (by omega)) (qw_mono fy (by omega))
      have hz := qw_smp fx fy (by omega)
      have h0 : (smp x y).2 = false → (smp x y).1 = 0 := by
        unfold smp; split
        · exact fun _ => rfl
        · split
          · intro h; simp at h
          · split <;> (intro h; simp at h)
      unfold zq at sp
      generalize (smp x y).1 = z at *
      generalize (smp x y).2 = b at *
      simp
      refine callS r1 (by simp [fsv]) ?_
      simp [fsv]
      refine callS r2 (by simp [fsv]) ?_
      simp [fsv]
      intro _ _
      refine callS q1 (by simp [errSV]) ?_
      simp [errSV]
      refine callS q2 (by simp [errSV]) ?_
      simp [errSV]
      refine callS sq (by simp) ?_
      simp
      cases b
      · obtain rfl := h0 rfl
        refine callS sp (by simp) ?_
        simp
        refine callS (qText_ok 0 (qok_of (qw_zero (k := 1) (by omega)) (by omega))) (by simp) ?_
        simp [qtxt_nil]
      · refine callS sp (by simp) ?_
        simp
        have hq : qok z := qok_of hz (by omega)
        refine CodeJ.draw (.qs [0, 1, 2, 4] <| .l 3 [] <| .l 5 [] <| .qs [6, 7, 8] <| .nil) (by kernel_rfl) (by kernel_rfl) (by simp) ?_
        simp
        refine callS (qText_ok z hq) (by simp) ?_
        simp
        refine callS (pText_ok z hq) (by simp) ?_
        simp
    · rw [if_neg k2] at r2
      rw [if_pos k1] at r1
      simp
      refine callS r1 (by simp [fsv]) ?_
      simp [fsv]
      refine callS r2 (by simp [fsv]) ?_
      simp [fsv, k1]
      omega
  · rw [if_neg k1] at r1
    simp
    refine callS r1 (by simp [fsv]) ?_
    simp [fsv]
    by_cases k2 : c' = 0
    · rw [if_pos k2] at r2
      refine callS r2 (by simp [fsv]) ?_
      simp [fsv]
      omega
    · rw [if_neg k2] at r2
      refine callS r2 (by simp [fsv]) ?_
      simp [fsv]
      omega
