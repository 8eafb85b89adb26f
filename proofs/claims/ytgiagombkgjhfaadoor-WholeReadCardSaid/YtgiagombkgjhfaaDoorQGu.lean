/- What the law WholeRead returns. A text of the prover's own. -/
import Derived.Test.YtgiagombkgjhfaaDoorQEn
import Derived.Test.YtgiagombkgjhfaaDoorQRt
namespace Go.Proofs
open Go.Sv Go Go.Pl Go.RowKit
theorem txt_zero : txt 0 = ⟨#[48]⟩ := rfl
set_option maxRecDepth 20000 in
theorem wholeRead_ok (s : ByteArray) (hs : s.size ≤ 4611686018427387904) : PureE Tryd.prog 5 [.val (.string s)] (fun x => x = .val (.bool true)) := by
  refine pureE_enter Tryd.func5 rfl (by simp) (fun C hC hX hE => ?_)
  have fx := fw_rd s
  have w10 := rd_abs s
  have r1 := rRead_ok s hs
  have q1 := read_ok s hs
  obtain ⟨k1, k2⟩ := rd_code s
  unfold fsvR at r1
  generalize (rd s).1 = x at *
  generalize (rd s).2.1 = c at *
  generalize (rd s).2.2 = a at *
  have td := told_ok (a := a) k1
  have hts := txt_size (fit_fw fx (by omega))
  have q2 := read_ok (txt x) (by omega)
  rw [rd_txt w10] at q2
  have tx := text_ok x (fit_fw fx (by omega))
  have rx := rText_ok x (rfit_of fx (by omega))
  refine CodeJ.go ?_
  by_cases h0 : c = 0
  · subst h0
    simp only [errSV, fsv, if_true] at r1 q1 q2 td
    simp
    intro _
    refine callS q1 (by simp) ?_
    simp
    refine callS r1 (by simp) ?_
    simp
    refine callE td hE hX (by simp) (fun y hy => ?_)
    subst hy
    simp
    refine callS tx (by simp) ?_
    simp
    refine callS q2 (by simp) ?_
    simp
    refine callS tx (by simp) ?_
    simp
    refine callS rx (by simp) ?_
    simp
  · have hx0 := k2 h0
    subst hx0
    simp only [errSV, fsv, if_neg h0] at r1 q1 td
    simp
    intro _
    refine callS q1 (by simp) ?_
    simp
    refine callS r1 (by simp) ?_
    simp
    refine callE td hE hX (by simp) (fun y hy => ?_)
    subst hy
    simp
    refine callS tx (by simp) ?_
    have : 0 < c := by omega
    simp [txt_zero, this]
