/- What functions of the given program return (trim_ok, made_ok, of_ok), for arguments within the bounds that each theorem names. A text of the prover's own. -/
import Derived.Test.YtgiagombkgjhfaaDoorPl
import Derived.Test.YtgiagombkgjhfaaDoorTy
namespace Go.Proofs
open Go.Sv Go Go.Pl
/-- a whole number of the program -/
def zsv (x : Int) : SV := .agg [.val (.bool (decide (x < 0))), .ro ((dig 4294967296 x.natAbs).map u32)]

@[simp] theorem zsv_csz (x : Int) : (zsv x).csz = 2 := rfl
@[simp] theorem zsv_isTup (x : Int) : (zsv x).isTup = false := rfl
@[simp] theorem zsv_isAgg (x : Int) : (zsv x).isAgg = true := rfl
@[simp] theorem zsv_one (x : Int) : (zsv x).one = false := rfl
@[simp] theorem zsv_pure (x : Int) : (zsv x).pure = true := rfl
@[simp] theorem zsv_lt (n : Nat) (x : Int) : (zsv x).lt n = true := rfl
@[simp] theorem zsv_uses (k : Nat) (x : Int) : (zsv x).uses k = false := rfl
@[simp] theorem zsv_ks (x : Int) : (zsv x).ks = [] := rfl
@[simp] theorem Sub_zsv (M : Tab) (x : Int) (y : SV) : Sub M (zsv x) y = (y = zsv x) := by
  cases y with
  | agg l =>
    match l with
    | [] => simp [zsv, Sv.Sub, SubL]
    | [a] => simp [zsv, Sv.Sub, SubL]
    | a :: b :: c :: r => simp [zsv, Sv.Sub, SubL]
    | [a, b] => cases a <;> simp [zsv, Sv.Sub, SubL]; intro _; exact eq_comm
  | _ => simp [zsv, Sv.Sub]
set_option maxRecDepth 10000 in
theorem trim_ok (xs : List Nat) (h : xs.length ≤ 4398046511104) : PureF Tryd.prog 75 [.ro (xs.map u32)] (.ro ((trimL xs).map u32)) := by
  refine pure_enter Tryd.func75 rfl (by simp) (fun C hC => ?_)
  simp
  refine CodeJ.loop (ι := List Nat) (fun l => ⟨21, [(0, .ro (l.map u32))], []⟩) (fun l => l.length ≤ 4398046511104 ∧ trimL l = trimL xs) (fun l => l.length) xs ?_ ?_ ?_
  · simp [h]
  · simp [leS]
  · rintro l ⟨hl, ht⟩
    rcases List.eq_nil_or_concat l with rfl | ⟨zs, z, rfl⟩
    · simp [← ht]; simp [trimL]
    · simp at hl
      rw [List.concat_eq_append] at ht
      simp (disch := omega) [w64]
      refine ⟨by omega, fun hz => ⟨by omega, zs, ⟨by omega, by rw [← ht, hz, trimL_zero]⟩, by omega, by simp [leS, hC]⟩, fun hz => ?_⟩
      simp [← ht, trimL_snoc _ hz]

set_option maxRecDepth 10000 in
theorem made_ok (b : Bool) (xs : List Nat) (h : xs.length ≤ 4398046511104) (hx : ∀ d ∈ xs, d < 4294967296) :
    PureF Tryd.prog 74 [.val (.bool b), .ro (xs.map u32)] (zsv (if b = true then -(val 4294967296 xs : Int) else (val 4294967296 xs : Int))) := by
  refine pure_enter Tryd.func74 rfl (by simp) (fun C hC => ?_)
  simp
  refine callF (trim_ok xs h) (by simp) ?_
  rw [← dig_val (by omega) xs hx]
  generalize val 4294967296 xs = n
  cases b with
  | false => 
    simp [zsv]
  | true =>
    simp [zsv, List.length_pos_iff, dig_eq_nil]
    by_cases h : n = 0 <;> simp [h]; omega

set_option maxRecDepth 10000 in
theorem of_ok (n : Int) (h1 : -9223372036854775808 ≤ n) (h2 : n ≤ 9223372036854775807) : PureF Tryd.prog 14 [.val (.int .i64 n)] (zsv n) := by
  refine pure_enter Tryd.func14 rfl (by simp) (fun C hC => ?_)
  have key : ∀ m : Nat, m ≤ 9223372036854775808 → dig 4294967296 m = trimL [m % 4294967296, m / 4294967296] := fun m hm => by
    rw [← dig_val (B := 4294967296) (by omega) _ (by simp; omega)]
    congr 1; simp [val]; omega
  by_cases hn : n < 0
  · obtain ⟨m, rfl⟩ : ∃ m : Nat, n = -(m : Int) := ⟨n.natAbs, by omega⟩
    have hm : 0 < m := by omega
    have e1 : IntKind.u64.wrap (-IntKind.u64.wrap (-(m : Int))) = m := by simp only [u64w]; omega
    have e2 : IntKind.u32.wrap ((m : Int) / 4294967296) = ((m / 4294967296 : Nat) : Int) := by simp only [u32w]; omega
    simp [hm, e1, e2, u32w]
    refine callF (trim_ok [m % 4294967296, m / 4294967296] (by simp)) (by simp) ?_
    simp
    refine callF (made_ok true (trimL [m % 4294967296, m / 4294967296]) (Nat.le_trans (trimL_le _) (by simp)) (trimL_lt _ (by simp; omega))) (by simp) ?_
    simp [val_trim, val, zsv]
    rw [show ((m : Int) % 4294967296 + 4294967296 * ((m : Int) / 4294967296)) = m from by omega]; simp
  · obtain ⟨m, rfl⟩ : ∃ m : Nat, n = (m : Int) := ⟨n.natAbs, by omega⟩
    have e1 : IntKind.u64.wrap (m : Int) = m := by simp only [u64w]; omega
    have e2 : IntKind.u32.wrap ((m : Int) / 4294967296) = ((m / 4294967296 : Nat) : Int) := by simp only [u32w]; omega
    simp [hn, e1, e2, u32w]
    refine callF (trim_ok [m % 4294967296, m / 4294967296] (by simp)) (by simp) ?_
    simp
    refine callF (made_ok false (trimL [m % 4294967296, m / 4294967296]) (Nat.le_trans (trimL_le _) (by simp)) (trimL_lt _ (by simp; omega))) (by simp) ?_
    simp [val_trim, val, zsv]
    rw [show ((m : Int) % 4294967296 + 4294967296 * ((m : Int) / 4294967296)) = m from by omega]; simp
end Go.Proofs
