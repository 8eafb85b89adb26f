import Derived.Test.YtnimjdcaajmfcaaGreatDoorPWc
namespace Go.Proofs
open Go.Sv Go Go.Pl
/-- x has at most k limbs -/
def fw (k : Nat) (x : Int) : Prop := wid 4294967296 x.natAbs ≤ k
theorem fit_fw {k x} (h : fw k x) (hk : k ≤ 1000000000000) : fit x := Nat.le_trans h hk
theorem fw_mul {k l x y} (h : fw k x) (h' : fw l y) : fw (k + l) (x * y) := by
  unfold fw at *; rw [Int.natAbs_mul]; exact Nat.le_trans (wid_mul (by omega) _ _) (by omega)
theorem fw_add {k x y} (h : fw k x) (h' : fw k y) : fw (k + 1) (x + y) := by
  unfold fw at *
  exact Nat.le_trans (wid_mono (by omega) (Int.natAbs_add_le x y)) (Nat.le_trans (wid_add (by omega) _ _) (by omega))
theorem fw_neg {k x} (h : fw k x) : fw k (-x) := by unfold fw at *; rwa [Int.natAbs_neg]
theorem fw_mono {k l x} (h : fw k x) (hk : k ≤ l) : fw l x := Nat.le_trans h hk
@[simp] theorem errSV_neq {c a s b z} : evNilEq .neq (some ⟨.iface, s, b, z⟩) (some (errSV c a)) = .q True (.bool (decide (c ≠ 0))) := by
  unfold errSV; split <;> simp [*]
@[simp] theorem errSV_eql {c a s b z} : evNilEq .eql (some ⟨.iface, s, b, z⟩) (some (errSV c a)) = .q True (.bool (decide (c = 0))) := by
  unfold errSV; split <;> simp [*]
