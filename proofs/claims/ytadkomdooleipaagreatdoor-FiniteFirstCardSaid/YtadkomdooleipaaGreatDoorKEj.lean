/- What errors.Is returns of an error of errors.New's make and of a Fault of package api that holds one. What errors.As returns at a target of package api's Fault. A text of the prover's own, after a worked proof of the kit. A text of the prover's own. -/
import Derived.Test.YtadkomdooleipaaGreatDoorChecked
import Derived.WalkKit
import Derived.LaidEql
import Derived.Stop.Asserts
import Derived.RowKitTokens
namespace Go.Proofs
open Go.RowKit Go.Extern.Stop Go.Stop Go.Extern

/-- the model's entry for Comparable -/
def cmpF : Array Value → Sem Value := ReflectliteType.method fun t => do Rtype.noPackHeld "Comparable" t; pure (.bool (← typeInfo t).comparable)
theorem Tryz.isTypeOf (v : Value) (w : World) : (Extern.ReflectliteType.typeOf #[.iface 139 v]).run Tryz.prog w = .ok (.iface 100 (.agg #[.pointer (some ⟨11, 139, none⟩)])) w := by kernel_rfl
theorem Tryz.isComparable (w : World) : (cmpF #[.agg #[.pointer (some ⟨11, 139, none⟩)]]).run Tryz.prog w = .ok (.bool true) w := by kernel_rfl
theorem Tryz.isMethodComparable (v : Value) (w : World) : (Go.method 281 100 v "Comparable").run Tryz.prog w = .ok (125, v) w := by kernel_rfl
theorem Tryz.isComp : (Tryz.prog.info? 139).map (·.comparable) = some true := by kernel_rfl
theorem Tryz.isSize : (Tryz.prog.info? 169).map (·.size) = some 1 := by kernel_rfl
theorem Tryz.noIsE (v : Value) (xT : TypeId) (w : World) : (Instr.typeAssert (.iface 139 v) xT 102 true).run Tryz.prog w = .ok (.tuple #[.nilIface, .bool false]) w := run_typeAssert_lacksB Tryz.underlying102 (by kernel_rfl) (by kernel_rfl) v xT w
theorem Tryz.noUnwrapE (v : Value) (xT : TypeId) (w : World) : (Instr.typeAssert (.iface 139 v) xT 105 true).run Tryz.prog w = .ok (.tuple #[.nilIface, .bool false]) w := run_typeAssert_lacksB Tryz.underlying105 (by kernel_rfl) (by kernel_rfl) v xT w
theorem Tryz.noUnwrapsE (v : Value) (xT : TypeId) (w : World) : (Instr.typeAssert (.iface 139 v) xT 107 true).run Tryz.prog w = .ok (.tuple #[.nilIface, .bool false]) w := run_typeAssert_lacksB Tryz.underlying107 (by kernel_rfl) (by kernel_rfl) v xT w
theorem Tryz.noIsW (v : Value) (xT : TypeId) (w : World) : (Instr.typeAssert (.iface 64 v) xT 102 true).run Tryz.prog w = .ok (.tuple #[.nilIface, .bool false]) w := run_typeAssert_lacksB Tryz.underlying102 (by kernel_rfl) (by kernel_rfl) v xT w
theorem Tryz.hasUnwrapW (v : Value) (xT : TypeId) (w : World) : (Instr.typeAssert (.iface 64 v) xT 105 true).run Tryz.prog w = .ok (.tuple #[.iface 64 v, .bool true]) w := run_typeAssert_hasB Tryz.underlying105 (by kernel_rfl) v xT w
theorem Tryz.methodUnwrap (v : Value) (w : World) : (Go.method 281 64 v "Unwrap").run Tryz.prog w = .ok (90, v) w := by kernel_rfl

set_option maxRecDepth 100000 in
/-- an error is itself -/
theorem is_same (a : Addr) (w : World) :
    Calls Tryz.prog 27 #[.iface 139 (.pointer (some a)), .iface 139 (.pointer (some a))] w fun e w' => e = .returned (.bool true) ∧ w' = w := by
  obtain ⟨i, hi, hcmp⟩ := Option.map_eq_some_iff.1 Tryz.isComp
  obtain ⟨j, hj, hjs⟩ := Option.map_eq_some_iff.1 Tryz.isSize
  have h8 := @run_callFunc_extern Tryz.prog 34 _ Extern.ReflectliteType.typeOf Tryz.func34 (by kernel_rfl) (by kernel_rfl) (by kernel_rfl) (by kernel_rfl)
  have h32 := @run_callFunc_extern Tryz.prog 125 _ cmpF Tryz.func125 (by kernel_rfl) (by kernel_rfl) (by kernel_rfl) (by kernel_rfl)
  have tT := Tryz.isTypeOf
  have cT := Tryz.isComparable
  have mR := Tryz.isMethodComparable
  have heq := run_eql_iface_ptr_same (P := Tryz.prog) w a Tryz.underlying28 Tryz.underlying139 hi hcmp hj
  go_enter Tryz.func27, Tryz.ntmps27
  go_wp2
  refine wp_loop_rounds 1 ?_
  rw [rounds_succ]
  go_wp2
  go_ret
  exact ⟨rfl, rfl⟩
set_option maxRecDepth 100000 in
/-- two errors of their own are not the same -/
theorem is_other (a b : Addr) (ca cb : Array Value) (ta tb : TypeId) (w : World) (hne : a ≠ b) (ha : w.heap[a.block]? = some (.cells ca ta (0, 0))) (hb : w.heap[b.block]? = some (.cells cb tb (0, 0))) :
    Calls Tryz.prog 27 #[.iface 139 (.pointer (some a)), .iface 139 (.pointer (some b))] w fun e w' => e = .returned (.bool false) ∧ w' = w := by
  obtain ⟨i, hi, hcmp⟩ := Option.map_eq_some_iff.1 Tryz.isComp
  obtain ⟨j, hj, hjs⟩ := Option.map_eq_some_iff.1 Tryz.isSize
  have h8 := @run_callFunc_extern Tryz.prog 34 _ Extern.ReflectliteType.typeOf Tryz.func34 (by kernel_rfl) (by kernel_rfl) (by kernel_rfl) (by kernel_rfl)
  have h32 := @run_callFunc_extern Tryz.prog 125 _ cmpF Tryz.func125 (by kernel_rfl) (by kernel_rfl) (by kernel_rfl) (by kernel_rfl)
  have tT := Tryz.isTypeOf
  have cT := Tryz.isComparable
  have mR := Tryz.isMethodComparable
  have nE := Tryz.noIsE
  have uE := Tryz.noUnwrapE
  have vE := Tryz.noUnwrapsE
  have nW := Tryz.noIsW
  have uW := Tryz.hasUnwrapW
  have mU := Tryz.methodUnwrap
  have heq := run_eql_iface_ptr_other (P := Tryz.prog) w Tryz.underlying28 Tryz.underlying139 hi hcmp hj (by rw [hjs]; decide) hne ha hb
  go_enter Tryz.func27, Tryz.ntmps27
  go_wp2
  refine wp_loop_rounds 1 ?_
  rw [rounds_succ]
  go_wp2
  go_ret
  exact ⟨rfl, rfl⟩
end Go.Proofs
namespace Go.Proofs
open Go.RowKit Go.Extern.Stop Go.Stop Go.Extern
/-! ### CLOSED FACTS ON THE MODEL's ENTRIES FOR internal/reflectlite, at this program's types: 25: *p.E · 27: **p.E · 23: error · 45: reflectlite's rtype · 1: how many package-level variables the dump has -/
theorem as_valueOf27 (t : Addr) (w : World) : (ReflectliteValue.unpack (.iface 66 (.pointer (some t)))).run Tryz.prog w
    = .ok (.agg #[.pointer (some ⟨11, 66, none⟩), .pointer (some ⟨w.heap.size, 0, none⟩), .int .u64 150]) (w.alloc (.cells #[.pointer (some t)] 66)) := by kernel_rfl
theorem as_type27 (a : Addr) (w : World) : (ReflectliteValue.methodAny (ReflectliteValue.valueError "reflectlite.Value.Type" 0) (fun t _ _ _ => ReflectliteType.toType t) #[.agg #[.pointer (some ⟨11, 66, none⟩), .pointer (some a), .int .u64 150]]).run Tryz.prog w
    = .ok (.iface 100 (.agg #[.pointer (some ⟨11, 66, none⟩)])) w := by kernel_rfl
theorem as_methodKind (h : Value) (w : World) : (Go.method 281 100 (.agg #[h]) "Kind").run Tryz.prog w = .ok (86, h) w := by kernel_rfl
theorem as_kind27 (w : World) : ((ReflectliteType.abiMethod fun t => (fun a : Nat => Value.int IntKind.u8 (a : Int)) <$> Rtype.kind t) #[.pointer (some ⟨11, 66, none⟩)]).run Tryz.prog w = .ok (.int .u8 22) w := by kernel_rfl
theorem as_kind25 (w : World) : ((ReflectliteType.abiMethod fun t => (fun a : Nat => Value.int IntKind.u8 (a : Int)) <$> Rtype.kind t) #[.pointer (some ⟨11, 64, none⟩)]).run Tryz.prog w = .ok (.int .u8 22) w := by kernel_rfl

/-! ### THE ENTRIES THAT READ OR WRITE MEMORY: laws with a premise on the cell (after Derived/Lib/ReflectliteSlice.lean's manner: each unfolding a lemma of its own, by rfl) -/
theorem rlm (z : Sem Value) (f : TypeId → Addr → Nat → Nat → Sem Value) (v : Value) :
    ReflectliteValue.method z f #[v] = (do match ← ReflectliteValue.parts v with | none => z | some (t, a, fl) => f t a fl (fl % 32)) := rfl
theorem as_parts27 (a : Addr) (w : World) : (ReflectliteValue.parts (.agg #[.pointer (some ⟨11, 66, none⟩), .pointer (some a), .int .u64 150])).run Tryz.prog w = .ok (some (66, a, 150)) w := by kernel_rfl
/-- (Value).IsNil at the Value of a **p.E that is not nil. -/
theorem as_isNil27 (a p : Addr) (W : World) (ha : W.cell? a = some (.pointer (some p))) :
    (ReflectliteValue.method (ReflectliteValue.valueError "reflectlite.Value.IsNil" 0) ReflectliteValue.isNil #[.agg #[.pointer (some ⟨11, 66, none⟩), .pointer (some a), .int .u64 150]]).run Tryz.prog W = .ok (.bool false) W := by
  rw [rlm]
  simp only [Sem.run_bind, as_parts27, Result.andThen]
  simp [ReflectliteValue.isNil, loadVar, isAgg, underlying, Tryz.underlying66, ha, Result.andThen]

theorem as_methodElem (h : Value) (w : World) : (Go.method 281 100 (.agg #[h]) "Elem").run Tryz.prog w = .ok (126, .agg #[h]) w := by kernel_rfl
theorem as_methodImplements (h : Value) (w : World) : (Go.method 281 100 (.agg #[h]) "Implements").run Tryz.prog w = .ok (127, .agg #[h]) w := by kernel_rfl
theorem as_methodAssignableTo (h : Value) (w : World) : (Go.method 281 100 (.agg #[h]) "AssignableTo").run Tryz.prog w = .ok (124, .agg #[h]) w := by kernel_rfl
theorem as_elem27 (w : World) : (ReflectliteType.method ReflectliteType.elem #[.agg #[.pointer (some ⟨11, 66, none⟩)]]).run Tryz.prog w = .ok (.iface 100 (.agg #[.pointer (some ⟨11, 64, none⟩)])) w := by kernel_rfl
theorem as_implements25 (w : World) : (ReflectliteType.relation "Implements" ReflectliteType.implements_ #[.agg #[.pointer (some ⟨11, 64, none⟩)], .iface 100 (.agg #[.pointer (some ⟨11, 28, none⟩)])]).run Tryz.prog w = .ok (.bool true) w := by kernel_rfl
end Go.Proofs

