/- What the law RatioRead returns. A text of the prover's own. -/
import Derived.Test.YtgiagombkgjhfaaDoorQEn
namespace Go.Proofs
open Go.Sv Go Go.Pl Go.RowKit
def CodeP (r : Rat × Nat × Nat) : Prop := (r.2.1 = 0 ∨ r.2.1 = 1 ∨ r.2.1 = 2 ∨ r.2.1 = 3) ∧ (r.2.1 ≠ 0 → r.1 = 0)
theorem CodeP.ite {p : Prop} [Decidable p] {a b : Rat × Nat × Nat} (ha : CodeP a) (hb : CodeP b) : CodeP (if p then a else b) := by
  split
  · exact ha
  · exact hb
theorem CodeP.err {c x : Nat} (h : c = 1 ∨ c = 2 ∨ c = 3) : CodeP (0, c, x) := ⟨.inr h, fun _ => rfl⟩
theorem CodeP.num {q : Rat} : CodeP (q, 0, 0) := ⟨.inl rfl, fun h => absurd rfl h⟩
theorem qtail_code (s : ByteArray) (n p e : Nat) : CodeP (qtail s n p e) := by
  unfold qtail
  exact .ite (.ite (.err (by omega)) (.ite (.err (by omega)) (.ite (.err (by omega)) (.ite .num .num)))) (.ite (.err (by omega)) .num)
theorem qrd_code (m : Nat) (s : ByteArray) : CodeP (qrd m s) := by
  unfold qrd
  exact .ite (.err (by omega)) (.ite (.err (by omega)) (.ite (.ite (.err (by omega)) (.ite (.err (by omega)) (.ite (.err (by omega)) .num))) (.ite (.ite (.err (by omega)) (.ite (.err (by omega)) (qtail_code ..))) (qtail_code ..))))
set_option maxRecDepth 20000 in
theorem ratioRead_ok (s : ByteArray) (hs : s.size ≤ 4611686018427387904) : PureE Tryd.prog 13 [.val (.string s)] (fun x => x = .val (.bool true)) := by
  refine pureE_enter Tryd.func13 rfl (by simp) (fun C hC hX hE => ?_)
  have fx := qw_qrd s
  have r1 := pQRead_ok s hs
  have q1 := qRead_ok s hs
  obtain ⟨k1, k2⟩ := qrd_code 300 s
  unfold outP at r1
  unfold outQ at q1
  generalize (qrd 300 s).1 = x at *
  generalize (qrd 300 s).2.1 = c at *
  generalize (qrd 300 s).2.2 = a at *
  have td := told_ok (a := a) k1
  have hq : qok x := qok_of fx (by omega)
  have fn := fx.1
  have fd := fx.2
  refine CodeJ.go ?_
  by_cases h0 : c = 0
  · subst h0
    simp only [errSV, fsv, if_true] at r1 q1 td
    simp
    intro _
    refine callS q1 (by simp) ?_
    simp
    refine callS r1 (by simp) ?_
    simp
    refine callE td hE hX (by simp) (fun y hy => ?_)
    subst hy
    simp
    refine callS (qText_ok x hq) (by simp) ?_
    simp
    refine callS (qNum_ok x) (by simp) ?_
    simp
    refine callS (qDen_ok x hq) (by simp) ?_
    simp
    refine CodeJ.draw (.qs [0, 1] <| .l 2 [] <| .qs [3, 4, 5, 7, 8] <| .l 6 [] <| .l 9 [] <| .qs [10, 11, 12, 13, 15, 16] <| .l 14 [] <| .l 17 [] <| .qs [18, 19, 20] <| .nil) (by kernel_rfl) (by kernel_rfl) (by simp) ?_
    simp
    refine callS (pText_ok x hq) (by simp) ?_
    simp
    refine callS (text_ok _ (fit_fw fn (by omega))) (by simp) ?_
    simp
    refine callS (rText_ok _ (rfit_of fn (by omega))) (by simp) ?_
    simp
    refine callS (text_ok _ (fit_fw fd (by omega))) (by simp) ?_
    simp
    refine callS (rText_ok _ (rfit_of fd (by omega))) (by simp) ?_
    simp
  · have hx0 := k2 h0
    subst hx0
    simp only [errSV, fsv, if_neg h0] at r1 q1 td
    simp
    intro _
    refine callS q1 (by simp) ?_
    simp
    refine callS r1 (by simp) ?_
    simp
    refine callE td hE hX (by simp) (fun y hy => ?_)
    subst hy
    simp
    refine callS (qText_ok 0 hq) (by simp) ?_
    have : 0 < c := by omega
    simp [qtxt_nil, this]
