/- Lists of numbers in slices: what simp needs to know of them. A text of the prover's own; it names no program. -/
import Derived.Test.YtlkaaaoeemejoaaGreatDoorQVy
namespace Go.Sv
open Go Go.RowKit

def u32 (x : Nat) : SV := .val (.int .u32 (x : Int))
def i64 (x : Nat) : SV := .val (.int .i64 (x : Int))
def u8 (x : Nat) : SV := .val (.int .u8 (x : Int))
@[simp] theorem u8_val (x : Nat) : u8 x = .val (.int .u8 (x : Int)) := rfl
@[simp] theorem u32_val (x : Nat) : u32 x = .val (.int .u32 (x : Int)) := rfl
@[simp] theorem i64_val (x : Nat) : i64 x = .val (.int .i64 (x : Int)) := rfl

section
variable {α : Type} (f : α → SV)
@[simp] theorem lget_snoc (l r : List SV) (x : SV) : lget (l ++ x :: r) l.length = x := by
  induction l with
  | nil => rfl
  | cons y l ih => simpa using ih
@[simp] theorem lget_map_snoc (l : List α) (r : List SV) (x : SV) : lget (l.map f ++ x :: r) l.length = x := by
  have := lget_snoc (l.map f) r x
  rwa [List.length_map] at this
theorem lget_at {l : List α} {r : List SV} {x : SV} {i : Nat} (h : i = l.length) : lget (l.map f ++ x :: r) i = x := by rw [h, lget_map_snoc]
@[simp] theorem lset_snoc (l r : List SV) (x y : SV) : lset (l ++ x :: r) l.length y = l ++ y :: r := by
  induction l with
  | nil => rfl
  | cons z l ih => simpa using ih
@[simp] theorem lset_map_snoc (l : List α) (r : List SV) (x y : SV) : lset (l.map f ++ x :: r) l.length y = l.map f ++ y :: r := by
  have := lset_snoc (l.map f) r x y
  rwa [List.length_map] at this
theorem lset_at {l : List α} {r : List SV} {x y : SV} {i : Nat} (h : i = l.length) : lset (l.map f ++ x :: r) i y = l.map f ++ y :: r := by rw [h, lset_map_snoc]
@[simp] theorem take_map_app (l : List α) (r : List SV) : (l.map f ++ r).take l.length = l.map f := by
  have := List.take_left (l₁ := l.map f) (l₂ := r)
  rwa [List.length_map] at this
@[simp] theorem drop_map_app (l : List α) (r : List SV) : (l.map f ++ r).drop l.length = r := by
  have := List.drop_left (l₁ := l.map f) (l₂ := r)
  rwa [List.length_map] at this
theorem lget_app_lt {l r : List SV} {i : Nat} (h : i < l.length) : lget (l ++ r) i = lget l i := by
  induction l generalizing i with
  | nil => simp at h
  | cons y l ih => cases i with
    | zero => rfl
    | succ i => simp at h; simpa using ih h
@[simp] theorem okE_nil (s : Nat) : okE s [] = True := by simp [okE]
@[simp] theorem okE_cons (s : Nat) (x : SV) (l : List SV) : okE s (x :: l) = (x.csz = s ∧ x.isTup = false) := by simp [okE]
@[simp] theorem okE_u32 (l : List Nat) : okE 1 (l.map u32) = True := by cases l <;> simp [okE]
@[simp] theorem okE_i64 (l : List Nat) : okE 1 (l.map i64) = True := by cases l <;> simp [okE]
@[simp] theorem okE_u8 (l : List Nat) : okE 1 (l.map u8) = True := by cases l <;> simp [okE]
@[simp] theorem okE_u8app (l : List Nat) (r : List SV) : okE 1 (l.map u8 ++ r) = (l = [] → okE 1 r) := by cases l <;> simp [okE]
@[simp] theorem okE_u32app (l : List Nat) (r : List SV) : okE 1 (l.map u32 ++ r) = (l = [] → okE 1 r) := by cases l <;> simp [okE]
@[simp] theorem okE_i64app (l : List Nat) (r : List SV) : okE 1 (l.map i64 ++ r) = (l = [] → okE 1 r) := by cases l <;> simp [okE]
end

@[simp] theorem ltL_append (n : Nat) (l r : List SV) : SV.ltL n (l ++ r) = (SV.ltL n l && SV.ltL n r) := by
  induction l with
  | nil => simp [SV.ltL]
  | cons x l ih => simp [SV.ltL, ih, Bool.and_assoc]
@[simp] theorem pureL_append (l r : List SV) : SV.pureL (l ++ r) = (SV.pureL l && SV.pureL r) := by
  induction l with
  | nil => simp [SV.pureL]
  | cons x l ih => simp [SV.pureL, ih, Bool.and_assoc]
@[simp] theorem usesL_append (k : Nat) (l r : List SV) : SV.usesL k (l ++ r) = (SV.usesL k l || SV.usesL k r) := by
  induction l with
  | nil => simp [SV.usesL]
  | cons x l ih => simp [SV.usesL, ih, Bool.or_assoc]
@[simp] theorem ltL_u32 (n : Nat) (l : List Nat) : SV.ltL n (l.map u32) = true := by simp [ltL_map, SV.lt]
@[simp] theorem ltL_u8 (n : Nat) (l : List Nat) : SV.ltL n (l.map u8) = true := by simp [ltL_map, SV.lt]
@[simp] theorem pureL_u8 (l : List Nat) : SV.pureL (l.map u8) = true := by simp [pureL_map, SV.pure]
@[simp] theorem bytes_u8 (l : List Nat) : (l.map u8).all byteSV = true := by simp [byteSV]
@[simp] theorem ltL_i64 (n : Nat) (l : List Nat) : SV.ltL n (l.map i64) = true := by simp [ltL_map, SV.lt]
@[simp] theorem pureL_u32 (l : List Nat) : SV.pureL (l.map u32) = true := by simp [pureL_map, SV.pure]
@[simp] theorem pureL_i64 (l : List Nat) : SV.pureL (l.map i64) = true := by simp [pureL_map, SV.pure]

@[simp] theorem toNat_add2 (a b : Nat) : ((a : Int) + (b : Int)).toNat = a + b := by omega
@[simp] theorem toNat_sub1 (a : Nat) : ((a : Int) - 1).toNat = a - 1 := by omega
@[simp] theorem toNat_sub2 (a : Nat) : ((a : Int) - 2).toNat = a - 2 := by omega
@[simp] theorem toNat_subN (a b : Nat) : ((a : Int) - (b : Int)).toNat = a - b := by omega
@[simp] theorem toNat_addsub1 (a b : Nat) : ((a : Int) + (b : Int) - 1).toNat = a + b - 1 := by omega
@[simp] theorem toNat_addsub2 (a b : Nat) : ((a : Int) + (b : Int) - 2).toNat = a + b - 2 := by omega
@[simp] theorem toNat_add3 (a b c : Nat) : ((a : Int) + (b : Int) + (c : Int)).toNat = a + b + c := by omega

/-! tables that are not told whole -/
@[simp] theorem leM_self : ∀ M : Tab, leM M M
  | [] => trivial
  | _ :: M => ⟨.inr rfl, leM_self M⟩
theorem tget_same {M : Tab} {k : Nat} {e' : Ent} (e : Ent) (h : tget M k = some e') : tget (tset M k (some e)) k = some e := by
  rw [tget_set _ _ _ _ ⟨e', h⟩, if_pos rfl]
@[simp] theorem tset_tset (M : Tab) (k : Nat) (x y : Option Ent) : tset (tset M k x) k y = tset M k y := by
  simp [tset_eq]
@[simp] theorem tset_len (M : Tab) (k : Nat) (x : Option Ent) : (tset M k x).length = M.length := by simp [tset_eq]
theorem tset_self {M : Tab} {k : Nat} {e : Ent} (h : tget M k = some e) : tset M k (some e) = M := by
  induction M generalizing k with
  | nil => rfl
  | cons x l ih => cases k with
    | zero => simp only [tget] at h; simp [tset, h]
    | succ k => simp only [tset]; rw [ih h]

@[simp] theorem tget_snoc (M : Tab) (x : Option Ent) : tget (M ++ [x]) M.length = x := by
  induction M with
  | nil => rfl
  | cons y M ih => simpa [tget] using ih
@[simp] theorem tset_snoc (M : Tab) (x y : Option Ent) : tset (M ++ [x]) M.length y = M ++ [y] := by
  induction M with
  | nil => rfl
  | cons z M ih => simpa [tset] using ih
theorem tget_snoc_lt {M : Tab} {k : Nat} {e : Ent} (x : Option Ent) (h : tget M k = some e) : tget (M ++ [x]) k = some e := by
  induction M generalizing k with
  | nil => simp [tget] at h
  | cons y M ih => cases k with
    | zero => exact h
    | succ k => exact ih h
theorem tget_len {M : Tab} {n : Nat} (x : Option Ent) (h : n = M.length) : tget (M ++ [x]) n = x := by rw [h, tget_snoc]
theorem tset_snoc_lt {M : Tab} {k : Nat} {e : Ent} (x y : Option Ent) (h : tget M k = some e) : tset (M ++ [x]) k y = tset M k y ++ [x] := by
  induction M generalizing k with
  | nil => simp [tget] at h
  | cons z M ih => cases k with
    | zero => rfl
    | succ k => simp only [List.cons_append, tset]; rw [ih h]
theorem tget_other {M : Tab} {k j : Nat} {e' : Ent} (e : Ent) (h : tget M k = some e') (hj : j ≠ k) : tget (tset M k (some e)) j = tget M j := by
  rw [tget_set _ _ _ _ ⟨e', h⟩, if_neg hj]

/-! numbers -/
@[simp] theorem bits_i64 : IntKind.i64.bits = 64 := rfl
@[simp] theorem bits_u64 : IntKind.u64.bits = 64 := rfl
@[simp] theorem bits_u32 : IntKind.u32.bits = 32 := rfl
@[simp] theorem bits_u8 : IntKind.u8.bits = 8 := rfl
theorem u64w (n : Int) : IntKind.u64.wrap n = n % 18446744073709551616 := by simp [IntKind.wrap, IntKind.bits, IntKind.signed]
theorem u32w (n : Int) : IntKind.u32.wrap n = n % 4294967296 := by simp [IntKind.wrap, IntKind.bits, IntKind.signed]
theorem u8w (n : Int) : IntKind.u8.wrap n = n % 256 := by simp [IntKind.wrap, IntKind.bits, IntKind.signed]
theorem w64 (n : Int) (h : -9223372036854775808 ≤ n ∧ n ≤ 9223372036854775807) : IntKind.i64.wrap n = n := by rw [IntKind.wrap_i64]; omega
theorem wu64 (n : Int) (h : 0 ≤ n ∧ n ≤ 18446744073709551615) : IntKind.u64.wrap n = n := by simp [IntKind.wrap, IntKind.bits, IntKind.signed]; omega
theorem wu32 (n : Int) (h : 0 ≤ n ∧ n ≤ 4294967295) : IntKind.u32.wrap n = n := by rw [IntKind.wrap_u32]; omega
theorem wu8 (n : Int) (h : 0 ≤ n ∧ n ≤ 255) : IntKind.u8.wrap n = n := by rw [IntKind.wrap_u8]; omega

end Go.Sv
