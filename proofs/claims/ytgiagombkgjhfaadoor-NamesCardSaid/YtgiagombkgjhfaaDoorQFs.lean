/- What functions of the given program return (wholeRing_ok), for arguments within the bounds that each theorem names. A text of the prover's own. -/
import Derived.Test.YtgiagombkgjhfaaDoorQWc
namespace Go.Proofs
open Go.Sv Go Go.Pl
/-- x has at most k limbs -/
def fw (k : Nat) (x : Int) : Prop := wid 4294967296 x.natAbs ≤ k
theorem fit_fw {k x} (h : fw k x) (hk : k ≤ 1000000000000) : fit x := Nat.le_trans h hk
theorem fw_mul {k l x y} (h : fw k x) (h' : fw l y) : fw (k + l) (x * y) := by
  unfold fw at *; rw [Int.natAbs_mul]; exact Nat.le_trans (wid_mul (by omega) _ _) (by omega)
theorem fw_add {k x y} (h : fw k x) (h' : fw k y) : fw (k + 1) (x + y) := by
  unfold fw at *
  exact Nat.le_trans (wid_mono (by omega) (Int.natAbs_add_le x y)) (Nat.le_trans (wid_add (by omega) _ _) (by omega))
theorem fw_neg {k x} (h : fw k x) : fw k (-x) := by unfold fw at *; rwa [Int.natAbs_neg]
theorem fw_sub {k x y} (h : fw k x) (h' : fw k y) : fw (k + 1) (x - y) := by rw [Int.sub_eq_add_neg]; exact fw_add h (fw_neg h')
theorem fw_rd (s : ByteArray) : fw 300 (rd s).1 := Nat.le_trans (wid_base (by omega) (by omega) _) (rd_abs s)
theorem txt_m21 : txt (-21) = { data := #[45, 50, 49] } := by decide +kernel
theorem fw_mono {k l x} (h : fw k x) (hk : k ≤ l) : fw l x := Nat.le_trans h hk
theorem fw_div {k x} (y : Int) (h : fw k x) : fw k (x / y) := by
  unfold fw at *
  exact Nat.le_trans (wid_mono (by omega) (Int.natAbs_ediv_le_natAbs _ _)) h
theorem fw_mod {k y} (x : Int) (hy : y ≠ 0) (h : fw k y) : fw k (x % y) := by
  unfold fw at *
  have h1 := Int.emod_lt x hy
  have h2 := Int.emod_nonneg x hy
  exact Nat.le_trans (wid_mono (by omega) (by omega)) h
@[simp] theorem errSV_neq {c a s b z} : evNilEq .neq (some ⟨.iface, s, b, z⟩) (some (errSV c a)) = .q True (.bool (decide (c ≠ 0))) := by
  unfold errSV; split <;> simp [*]
@[simp] theorem errSV_eql {c a s b z} : evNilEq .eql (some ⟨.iface, s, b, z⟩) (some (errSV c a)) = .q True (.bool (decide (c = 0))) := by
  unfold errSV; split <;> simp [*]
set_option maxRecDepth 20000 in
theorem wholeRing_ok (s t u : ByteArray) (hs : s.size ≤ 4611686018427387904) (ht : t.size ≤ 4611686018427387904) (hu : u.size ≤ 4611686018427387904) :
    PureF Tryd.prog 6 [.val (.string s), .val (.string t), .val (.string u)] (.val (.bool true)) := by
  refine pure_enter Tryd.func6 rfl (by simp) (fun C hC => ?_)
  simp
  refine callF (of_ok 7 (by omega) (by omega)) (by simp) ?_
  simp
  refine callF (of_ok (-3) (by omega) (by omega)) (by simp) ?_
  simp
  refine callF (mul_ok 7 (-3) (fit_small (by decide)) (fit_small (by decide))) (by simp) ?_
  simp
  refine callF (text_ok (-21) (fit_small (by decide))) (by simp) ?_
  simp [txt_m21]
  refine callF (read_ok s hs) (by simp) ?_
  simp
  refine callF (read_ok t ht) (by simp) ?_
  simp
  refine callF (read_ok u hu) (by simp) ?_
  simp
  have fx := fw_rd s
  have fy := fw_rd t
  have fz := fw_rd u
  generalize (rd s).1 = x at *
  generalize (rd t).1 = y at *
  generalize (rd u).1 = z at *
  generalize (rd s).2.1 = cs at *
  generalize (rd t).2.1 = ct at *
  generalize (rd u).2.1 = cu at *
  generalize (rd s).2.2 = a1 at *
  generalize (rd t).2.2 = a2 at *
  generalize (rd u).2.2 = a3 at *
  intro _ _ _ _ _ _
  have f1 := fw_add fx fy
  have f2 := fw_mul f1 fz
  have f3 := fw_mul fx fz
  have f4 := fw_mul fy fz
  have f5 := fw_add (fw_mono f3 (Nat.le_refl 600)) f4
  have f6 := fw_sub fx fy
  have f7 := fw_add f6 (fw_mono fy (show 300 ≤ 301 by omega))
  refine callF (add_ok x y (fit_fw fx (by omega)) (fit_fw fy (by omega))) (by simp) ?_
  simp
  refine callF (mul_ok _ z (fit_fw f1 (by omega)) (fit_fw fz (by omega))) (by simp) ?_
  simp
  refine callF (mul_ok x z (fit_fw fx (by omega)) (fit_fw fz (by omega))) (by simp) ?_
  simp
  refine callF (mul_ok y z (fit_fw fy (by omega)) (fit_fw fz (by omega))) (by simp) ?_
  simp
  refine callF (add_ok _ _ (fit_fw f3 (by omega)) (fit_fw f4 (by omega))) (by simp) ?_
  simp
  refine callF (cmp_ok _ _ (Nat.le_trans f2 (by omega)) (Nat.le_trans f5 (by omega))) (by simp) ?_
  rw [← Int.add_mul]
  simp
  refine callF (sub_ok x y (fit_fw fx (by omega)) (fit_fw fy (by omega))) (by simp) ?_
  simp
  refine callF (add_ok _ y (fit_fw f6 (by omega)) (fit_fw fy (by omega))) (by simp) ?_
  rw [Int.sub_add_cancel]
  simp
  refine callF (cmp_ok x x (Nat.le_trans fx (by omega)) (Nat.le_trans fx (by omega))) (by simp) ?_
  simp
  refine callF (divmod_ok x y (fit_fw fx (by omega)) (fit_fw fy (by omega))) (by simp) ?_
  by_cases hy : y = 0
  · simp [hy]
    refine callF (sign_ok 0) (by simp) ?_
    simp
  · simp [hy]
    have f8 := fw_div y fx
    have f9 := fw_mod x hy fy
    refine callF (mul_ok _ y (fit_fw f8 (by omega)) (fit_fw fy (by omega))) (by simp) ?_
    simp
    refine callF (add_ok _ _ (fit_fw (fw_mul f8 fy) (by omega)) (fit_fw f9 (by omega))) (by simp) ?_
    rw [show x / y * y + x % y = x from Int.ediv_mul_add_emod x y]
    simp
    refine callF (sign_ok y) (by simp) ?_
    simp
    have h0 := Int.emod_nonneg x hy
    have h1 := Int.emod_lt x hy
    have hx' : wid 4294967296 x.natAbs ≤ 4398046511104 := Nat.le_trans fx (by omega)
    refine ⟨fun hn => ?_, fun hn => ?_⟩
    · refine callF (neg_ok y) (by simp) ?_
      simp
      refine callF (cmp_ok x x hx' hx') (by simp) ?_
      simp
      refine callF (sign_ok (x % y)) (by simp) ?_
      simp [h0]
      refine callF (cmp_ok (x % y) (-y) (Nat.le_trans f9 (by omega)) (Nat.le_trans (fw_neg fy) (by omega))) (by simp) ?_
      rw [if_pos (by omega)]
      simp
    · refine callF (cmp_ok x x hx' hx') (by simp) ?_
      simp
      refine callF (sign_ok (x % y)) (by simp) ?_
      simp [h0]
      refine callF (cmp_ok (x % y) y (Nat.le_trans f9 (by omega)) (Nat.le_trans fy (by omega))) (by simp) ?_
      rw [if_pos (by omega)]
      simp
