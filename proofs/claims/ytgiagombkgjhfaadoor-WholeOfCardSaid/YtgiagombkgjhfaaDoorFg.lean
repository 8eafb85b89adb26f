/- What functions of the given program return (word_ok), for arguments within the bounds that each theorem names. A text of the prover's own. -/
import Derived.Test.YtgiagombkgjhfaaDoorFf
namespace Go.Proofs
open Go.Sv Go Go.Pl
set_option maxRecDepth 10000 in
theorem word_ok (m : List Nat) (hm : ∀ d ∈ m, d < 4294967296) (hl : m.length ≤ 2) :
    PureF Tryd.prog 77 [.ro (m.map u32)] (.val (.int .u64 (val 4294967296 m))) := by
  refine pure_enter Tryd.func77 rfl (by simp) (fun C hC => ?_)
  simp (disch := omega) [w64]
  refine CodeJ.loop (ι := Nat)
    (fun i => ⟨21, [(0, .ro (m.map u32)), (3, .val (.int .u64 (val 4294967296 (m.drop i)))), (4, .val (.int .i64 ((i : Int) - 1)))], []⟩)
    (fun i => i ≤ m.length)
    (fun i => i) m.length ?_ ?_ ?_
  · simp
  · simp [leS, hC, val]
  · rintro i hi
    cases i with
    | zero => simp
    | succ i =>
      have hv := val_lt (m.drop (i + 1)) (fun d hd => hm d (List.mem_of_mem_drop hd))
      have hlen : (m.drop (i + 1)).length ≤ 1 := by simp; omega
      have hv' : val 4294967296 (m.drop (i + 1)) < 4294967296 := Nat.lt_of_lt_of_le hv (Nat.pow_le_pow_right (by omega) hlen)
      have bd := dg_lt hm (by omega) i
      simp (disch := omega) [w64, wu64, lget_u32, bits_or]
      refine ⟨by omega, i, by omega, by omega, ?_⟩
      have := val_drop 4294967296 m i
      simp [leS, hC, this]; omega
end Go.Proofs
