/- What strings.Repeat returns of the sign '0'. A text of the prover's own. -/
import Derived.Test.YtgiagombkgjhfaaDoorZQo
namespace Go.Proofs
open Go.Sv Go Go.Pl
set_option maxRecDepth 20000 in
theorem bMul64_ok (n : Nat) (h : n < 4294967296) : PureF Tryd.prog 129 [.val (.int .u64 1), .val (.int .u64 n)] (.tup [.val (.int .u64 0), .val (.int .u64 n)]) := by
  refine pure_enter Tryd.func129 rfl (by simp) (fun C hC => ?_)
  simp (disch := omega)
  have h1 : bwop .and .u64 1 4294967295 = 1 := by decide
  have h0 : bwop .and .u64 0 4294967295 = 0 := by decide
  have w0 : IntKind.u64.wrap 0 = 0 := by decide
  have hn : bwop .and .u64 n 4294967295 = n := by
    show IntKind.u64.wrap _ = _
    have e1 : (BitVec.ofInt 64 (n : Int)).toNat = n := by rw [BitVec.ofInt_natCast, BitVec.toNat_ofNat]; omega
    have e2 : (BitVec.ofInt 64 4294967295).toNat = 2 ^ 32 - 1 := by decide
    rw [show IntKind.u64.bits = 64 from rfl, BitVec.toNat_and, e1, e2, Nat.and_two_pow_sub_one_eq_mod, Nat.mod_eq_of_lt (by omega)]
    simp [IntKind.wrap, IntKind.bits, IntKind.signed]
    omega
  have wn : IntKind.u64.wrap (n : Int) = n := by
    simp [IntKind.wrap, IntKind.bits, IntKind.signed]
    omega
  have d0 : (n : Int) / 4294967296 = 0 := by omega
  simp [h1, hn, h0, w0, wn, d0]
set_option maxRecDepth 20000 in
theorem bMul_ok (n : Nat) (h : n < 4294967296) : PureF Tryd.prog 116 [.val (.int .u64 1), .val (.int .u64 n)] (.tup [.val (.int .u64 0), .val (.int .u64 n)]) := by
  refine pure_enter Tryd.func116 rfl (by simp) (fun C hC => ?_)
  simp
  refine callS (bMul64_ok n h) (by simp) ?_
  simp
set_option maxRecDepth 20000 in
theorem hasPre_ok (s p : ByteArray): PureF Tryd.prog 130 [.val (.string s), .val (.string p)] (.val (.bool (decide (p.size ≤ s.size ∧ s.extract 0 p.size = p)))) := by
  refine pure_enter Tryd.func130 rfl (by simp) (fun C hC => ?_)
  by_cases h : p.size ≤ s.size
  · simp [h]
  · simp [h]
set_option maxRecDepth 20000 in
theorem hasPrefix_ok (s p : ByteArray): PureF Tryd.prog 117 [.val (.string s), .val (.string p)] (.val (.bool (decide (p.size ≤ s.size ∧ s.extract 0 p.size = p)))) := by
  refine pure_enter Tryd.func117 rfl (by simp) (fun C hC => ?_)
  simp
  refine callS (hasPre_ok s p) (by simp) ?_
  simp
theorem hasPrefix_no (s p : ByteArray) (h : decide (p.size ≤ s.size ∧ s.extract 0 p.size = p) = false) : PureF Tryd.prog 117 [.val (.string s), .val (.string p)] (.val (.bool false)) := h ▸ hasPrefix_ok s p
theorem hasPrefix_yes (s p : ByteArray) (h : decide (p.size ≤ s.size ∧ s.extract 0 p.size = p) = true) : PureF Tryd.prog 117 [.val (.string s), .val (.string p)] (.val (.bool true)) := h ▸ hasPrefix_ok s p
def zer (n : Nat) : ByteArray := ⟨Array.replicate n 48⟩
@[simp] theorem zer_size (n : Nat) : (zer n).size = n := by show (Array.replicate n 48).size = n; simp
theorem zer_ext {m n : Nat} (h : n ≤ m) : (zer m).extract 0 n = zer n := by
  apply ByteArray.ext
  rw [ByteArray.data_extract]
  simp [zer, h]
theorem zer_one : zer 1 = ⟨#[48]⟩ := rfl
set_option maxRecDepth 20000 in
theorem repeat_ok (n : Nat) (h1 : 1 ≤ n) (h : n ≤ 64) : PureF Tryd.prog 102 [.val (.string ⟨#[48]⟩), .val (.int .i64 n)] (.val (.string (zer n))) := by
  refine pure_enter Tryd.func102 rfl (by simp) (fun C hC => ?_)
  have n0 : ¬ (n : Int) = 0 := by omega
  have nz : ¬ n = 0 := by omega
  have nn : ¬ (n : Int) < 0 := by omega
  by_cases n1 : n = 1
  · subst n1
    simp [zer_one]
  · have n1' : ¬ (n : Int) = 1 := by omega
    have wn : IntKind.u64.wrap (n : Int) = n := by
      simp [IntKind.wrap, IntKind.bits, IntKind.signed]
      omega
    have w1 : IntKind.u64.wrap 1 = 1 := by decide
    have wi : IntKind.i64.wrap (n : Int) = n := by
      simp [IntKind.wrap, IntKind.bits, IntKind.signed]
      omega
    have hs1 : (⟨#[48]⟩ : ByteArray).size = 1 := rfl
    have hg1 : ((sget (⟨#[48]⟩ : ByteArray) 0).toNat : Int) = 48 := rfl
    simp [nz, n1', nn, wn, w1, hs1]
    refine callS (bMul_ok n (by omega)) (by simp) ?_
    have big : ¬ (9223372036854775807 : Int) < n := by omega
    have h64 : (n : Int) ≤ 64 := by omega
    have h128 : (n : Int) ≤ 128 := by omega
    simp [wi, big, hs1, hg1, h128]
    refine callS (hasPrefix_no _ _ (by decide +kernel)) (by simp) ?_
    simp [h128]
    refine callS (hasPrefix_no _ _ (by decide +kernel)) (by simp) ?_
    simp [h64]
    refine callS (hasPrefix_yes _ _ (by decide +kernel)) (by simp) ?_
    simp
    rw [show (⟨#[48, 48, 48, 48, 48, 48, 48, 48, 48, 48, 48, 48, 48, 48, 48, 48, 48, 48, 48, 48, 48, 48, 48, 48, 48, 48, 48, 48, 48, 48, 48, 48, 48, 48, 48, 48, 48, 48, 48, 48, 48, 48, 48, 48, 48, 48, 48, 48, 48, 48, 48, 48, 48, 48, 48, 48, 48, 48, 48, 48, 48, 48, 48, 48]⟩ : ByteArray) = zer 64 from rfl]
    exact ⟨by rw [zer_size]; exact h, zer_ext h⟩
