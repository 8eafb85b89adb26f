/- What an operation of the model makes of symbolic values. A text of the prover's own; it names no program. -/
import Derived.Laws.Pointers
import Derived.Test.YtadkomdooleipaaGreatDoorKVm
import Derived.Laws.Small
import Derived.Laws.Strings
namespace Go.Sv
open Go Go.RowKit

inductive TK where
  | int (k : IntKind)
  | bool
  | str
  | sl (e : TypeId)
  | st (fs : List (Nat × Nat × TypeId))
  | arr (n : Nat) (e : TypeId)
  | ptr (e : TypeId)
  | iface
  | mp (k e : TypeId)
  | other
structure TI where
  k : TK
  size : Nat
  bytes : Nat
  zero : List SV

def TK.isAgg : TK → Bool
  | .st _ | .arr _ _ => true
  | _ => false
def aggD : TypeDesc → Bool
  | .struct _ | .array _ _ => true
  | _ => false
def szP (P : Program) (t : TypeId) : Nat := ((P.info? t).map (·.size)).getD 0
def tk (P : Program) : TypeDesc → TK
  | .int k => .int k
  | .bool => .bool
  | .string => .str
  | .slice e => .sl e
  | .struct fs => .st (fs.toList.map fun f => (f.offset, szP P f.type, f.type))
  | .array n e => .arr n e
  | .pointer e => .ptr e
  | .interface _ => .iface
  | .map k e => .mp k e
  | _ => .other
def toSV (v : Value) : SV := .val v
def isAggV : Value → Bool
  | .agg _ => true
  | _ => false
def tyOf (P : Program) (t : TypeId) : Option TI :=
  match P.info? t, P.underlying t with
  | some i, some d =>
    match i.zero with
    | some z => if z.cells.toList.all Value.oneCell' && z.cells.size == i.size && (aggD d || i.size == 1) && isAggV z == aggD d then some ⟨tk P d, i.size, i.bytes, z.cells.toList.map toSV⟩ else none
    | none => none
  | _, _ => none

theorem tk_isAgg (P : Program) (d : TypeDesc) : (tk P d).isAgg = aggD d := by cases d <;> rfl

theorem toSV_den {β : Bnd} {H : Hp} {v : Value} (h : v.oneCell' = true) : Den β H (toSV v) v ∧ (toSV v).one = true := by
  exact ⟨by simp [toSV, Den, h], by simp [toSV, SV.one, h]⟩
structure TyOK (P : Program) (t : TypeId) (ti : TI) (i : TypeInfo) (d : TypeDesc) (z : Value) : Prop where
  info : P.info? t = some i
  under : P.underlying t = some d
  hz : i.zero = some z
  cells : ∀ v ∈ z.cells.toList, v.oneCell' = true
  zsize : z.cells.size = i.size
  one : aggD d = true ∨ i.size = 1
  k : ti.k = tk P d
  size : ti.size = i.size
  bytes : ti.bytes = i.bytes
  zero : ti.zero = z.cells.toList.map toSV
  shape : isAggV z = aggD d

theorem tyOf_spec {P : Program} {t : TypeId} {ti : TI} (h : tyOf P t = some ti) : ∃ i d z, TyOK P t ti i d z := by
  unfold tyOf at h
  split at h
  · rename_i i d hi hd
    split at h
    · rename_i z hz
      split at h
      · rename_i hc
        simp only [Bool.and_eq_true, Bool.or_eq_true, beq_iff_eq, List.all_eq_true] at hc
        simp only [Option.some.injEq] at h
        subst h
        exact ⟨i, d, z, hi, hd, hz, hc.1.1.1, hc.1.1.2, hc.1.2, rfl, rfl, rfl, rfl, hc.2⟩
      · cases h
    · cases h
  · cases h

section runs
variable {P : Program} {t : TypeId} {ti : TI} {i : TypeInfo} {d : TypeDesc} {z : Value} {w : World}
theorem TyOK.runInfo (h : TyOK P t ti i d z) : (typeInfo t).run P w = .ok i w := by simp [typeInfo, h.info]
theorem TyOK.runUnder (h : TyOK P t ti i d z) : (underlying t).run P w = .ok d w := by simp [underlying, h.under]
theorem TyOK.runZero (h : TyOK P t ti i d z) : (zeroValue t).run P w = .ok z w := by simp [zeroValue, h.runInfo, h.hz]
theorem TyOK.runSize (h : TyOK P t ti i d z) : (sizeOf t).run P w = .ok ti.size w := by simp [sizeOf, h.runInfo, h.size]
theorem TyOK.runAgg (h : TyOK P t ti i d z) : (isAgg t).run P w = .ok ti.k.isAgg w := by
  rw [h.k, tk_isAgg]
  cases d <;> simp [isAgg, h.runUnder, aggD]
end runs

/-- the zero value of a type -/
def TI.zsv (ti : TI) : SV := if ti.k.isAgg then .agg ti.zero else lget ti.zero 0

theorem DenL_map {β : Bnd} {H : Hp} : ∀ (l : List Value), (∀ v ∈ l, v.oneCell' = true) → DenL β H (l.map toSV) l
  | [], _ => by simp [DenL]
  | v :: l, h => by
    simp only [List.map_cons, DenL]
    have := toSV_den (β := β) (H := H) (h v (by simp))
    exact ⟨v, l, rfl, this.2, this.1, DenL_map l fun u hu => h u (by simp [hu])⟩

theorem zsv_den {P : Program} {t : TypeId} {ti : TI} {i : TypeInfo} {d : TypeDesc} {z : Value} (h : TyOK P t ti i d z) (β : Bnd) (H : Hp) :
    ∃ v, Den β H ti.zsv v ∧ v.cells = z.cells ∧ z.cells.size = ti.size := by
  have hs : z.cells.size = ti.size := by rw [h.size, h.zsize]
  unfold TI.zsv
  by_cases ha : ti.k.isAgg = true
  · rw [if_pos ha]
    refine ⟨.agg z.cells, ?_, rfl, hs⟩
    simp only [Den]
    exact ⟨z.cells.toList, by simp, by rw [h.zero]; exact DenL_map _ h.cells⟩
  · rw [if_neg ha]
    have h1 : i.size = 1 := h.one.resolve_left (by rw [← tk_isAgg P, ← h.k]; exact ha)
    have h2 : z.cells.toList.length = 1 := by simp [h.zsize, h1]
    obtain ⟨v, hv⟩ : ∃ v, z.cells.toList = [v] := List.length_eq_one_iff.1 h2
    have hv1 := h.cells v (by simp [hv])
    refine ⟨v, ?_, ?_, hs⟩
    · rw [h.zero, hv]; exact (toSV_den hv1).1
    · rw [oneCell_cells hv1]; apply Array.ext'; simp [hv]

/-- the zero value itself -/
theorem zsv_is {P : Program} {t : TypeId} {ti : TI} {i : TypeInfo} {d : TypeDesc} {z : Value} (h : TyOK P t ti i d z) (β : Bnd) (H : Hp) : Den β H ti.zsv z := by
  obtain ⟨v, hv1, hv2, hv3⟩ := zsv_den h β H
  have hz := h.shape
  rw [← tk_isAgg P, ← h.k] at hz
  unfold TI.zsv at hv1 ⊢
  by_cases ha : ti.k.isAgg = true
  · rw [if_pos ha] at hv1 ⊢
    rw [ha] at hz
    simp only [Den] at hv1
    obtain ⟨vs, rfl, hvs⟩ := hv1
    cases z <;> simp [isAggV] at hz
    rename_i cs
    simp only [Value.cells] at hv2
    subst hv2
    simp only [Den]
    exact ⟨vs, rfl, hvs⟩
  · rw [if_neg ha] at hv1 ⊢
    have hc : z.cells = #[z] := by
      have : ti.k.isAgg = false := by simpa using ha
      rw [this] at hz
      cases z <;> simp_all [isAggV, Value.cells]
    rw [hc] at hv2
    have hone : (lget ti.zero 0).one = true := by
      rw [h.zero, hc]
      have hz1 := h.cells z (by rw [hc]; simp)
      simp [lget, toSV, SV.one, hz1]
    rw [oneCell_cells (Den.one hv1 hone)] at hv2
    simp only [Array.mk.injEq, List.cons.injEq, and_true] at hv2
    rw [← hv2]; exact hv1

/-! ### Operands -/
def constSV (v : Value) : Option SV := if v.oneCell' = true then some (.val v) else none
def ev (fr : List (Nat × SV)) : Operand → Option SV
  | .tmp t => get fr t
  | .const v => constSV v
  | .global g => match gl g with
    | some x => some (.rop x 0)
    | none => some (.val (.pointer (some ⟨g, 0, none⟩)))
  | .func f => some (.val (.func (.func f) #[] #[]))

theorem ev_den {β : Bnd} {H : Hp} {n : Nat} {fr : List (Nat × SV)} {a : Act} {o : Operand} {x : SV} (hF : FOK β H n fr a) (h : ev fr o = some x) : Den β H x (a.eval o) := by
  cases o with
  | tmp t =>
    obtain ⟨v, hv, hd⟩ := hF.2.2 t x h
    simp only [Act.eval, Array.getD_eq_getD_getElem?, hv]; exact hd
  | const v =>
    simp only [ev, constSV] at h
    split at h
    · rename_i hv; simp only [Option.some.injEq] at h; subst h; exact (toSV_den hv).1
    · cases h
  | global g =>
    simp only [ev] at h
    split at h
    · rename_i y hy
      simp only [Option.some.injEq] at h
      subst h
      obtain ⟨v, h1, h2⟩ := hF.1.2.at_ g y hy
      simp only [Den, Act.eval]
      exact ⟨g, 0, _, v, rfl, h2, h1, fun i _ => by simp⟩
    · simp only [Option.some.injEq] at h; subst h; simp [Den, Act.eval, Value.oneCell']
  | func f => simp only [ev, Option.some.injEq] at h; subst h; simp [Den, Act.eval, Value.oneCell']

/-! ### Results of an operation -/
inductive Res where
  | stuck
  | q (c : Prop) (x : SV)
  | m (c : Prop) (M : Tab) (x : Option SV)

abbrev SV.i64 (n : Int) : SV := .val (.int .i64 n)
abbrev SV.bool (b : Bool) : SV := .val (.bool b)

def binInt (op : BinOp) (k : IntKind) (m n : Int) : Res :=
  match op with
  | .add => .q True (.val (.int k (k.wrap (m + n))))
  | .sub => .q True (.val (.int k (k.wrap (m - n))))
  | .mul => .q True (.val (.int k (k.wrap (m * n))))
  | .quo => .q (n ≠ 0) (.val (.int k (k.wrap (m.tdiv n))))
  | .rem => .q (n ≠ 0) (.val (.int k (m.tmod n)))
  | .and => .q True (.val (.int k (k.wrap (BitVec.ofInt k.bits m &&& BitVec.ofInt k.bits n).toNat)))
  | .or => .q True (.val (.int k (k.wrap (BitVec.ofInt k.bits m ||| BitVec.ofInt k.bits n).toNat)))
  | .xor => .q True (.val (.int k (k.wrap (BitVec.ofInt k.bits m ^^^ BitVec.ofInt k.bits n).toNat)))
  | .eql => .q True (.bool (decide (m = n)))
  | .neq => .q True (.bool (decide (m ≠ n)))
  | .lss => .q True (.bool (decide (m < n)))
  | .leq => .q True (.bool (decide (m ≤ n)))
  | .gtr => .q True (.bool (decide (m > n)))
  | .geq => .q True (.bool (decide (m ≥ n)))
  | _ => .stuck
def shInt (op : BinOp) (k : IntKind) (m n : Int) : Res :=
  match op with
  | .shl => .q (0 ≤ n) (.val (.int k (k.wrap (m * 2 ^ (min n.toNat k.bits)))))
  | .shr => .q (0 ≤ n) (.val (.int k (m.fdiv (2 ^ (min n.toNat k.bits)))))
  | _ => .stuck
def isSh : BinOp → Bool
  | .shl | .shr => true
  | _ => false
def binStr (op : BinOp) (a b : ByteArray) : Res :=
  match op with
  | .add => .q (a.size + b.size ≤ 9223372036854775807) (.val (.string (a ++ b)))
  | .eql => .q True (.bool (decide (a = b)))
  | .neq => .q True (.bool (decide (a ≠ b)))
  | _ => .stuck
def evBin (op : BinOp) (ti : Option TI) : Option SV → Option SV → Res
  | some (.val (.int k m)), some (.val (.int k' n)) => if isSh op then shInt op k m n else if k = k' then binInt op k m n else .stuck
  | some (.val (.string a)), some (.val (.string b)) => binStr op a b
  | some (.val (.bool a)), some (.val (.bool b)) =>
    match op, ti with
    | .eql, some ⟨.bool, _, _, _⟩ => .q True (.bool (a == b))
    | .neq, some ⟨.bool, _, _, _⟩ => .q True (.bool (!(a == b)))
    | _, _ => .stuck
  | some (.rop _ _), some (.val (.pointer none)) =>
    match op, ti with
    | .eql, some ⟨.ptr _, _, _, _⟩ => .q True (.bool false)
    | .neq, some ⟨.ptr _, _, _, _⟩ => .q True (.bool true)
    | _, _ => .stuck
  | some (.val (.pointer none)), some (.val (.pointer none)) =>
    match op, ti with
    | .eql, some ⟨.ptr _, _, _, _⟩ => .q True (.bool true)
    | .neq, some ⟨.ptr _, _, _, _⟩ => .q True (.bool false)
    | _, _ => .stuck
  | _, _ => .stuck

theorem den_val {β : Bnd} {H : Hp} {v : Value} (h : v.oneCell' = true) : Den β H (.val v) v := by simp [Den, h]

theorem binInt_ok {P : Program} {β : Bnd} {H : Hp} {op : BinOp} {t : TypeId} {k : IntKind} {m n : Int} {c : Prop} {r : SV}
    (h : binInt op k m n = .q c r) (hc : c) : ∃ z, (∀ w, (binOp op t (.int k m) (.int k n)).run P w = .ok z w) ∧ Den β H r z := by
  cases op <;> simp only [binInt, Res.q.injEq, reduceCtorEq] at h <;> obtain ⟨rfl, rfl⟩ := h <;> refine ⟨_, fun w => ?_, den_val rfl⟩ <;>
    simp [binOp, Op.intArith, Op.intDiv, Op.intBits, Op.intCmp, BEq.beq, bne]
  all_goals (intro e; exact absurd e hc)
theorem shInt_ok {P : Program} {β : Bnd} {H : Hp} {op : BinOp} {t : TypeId} {k k' : IntKind} {m n : Int} {c : Prop} {r : SV}
    (h : shInt op k m n = .q c r) (hc : c) : ∃ z, (∀ w, (binOp op t (.int k m) (.int k' n)).run P w = .ok z w) ∧ Den β H r z := by
  cases op <;> simp only [shInt, Res.q.injEq, reduceCtorEq] at h <;> obtain ⟨rfl, rfl⟩ := h <;> refine ⟨_, fun w => ?_, den_val rfl⟩ <;>
    (simp only [binOp, Op.shift]; rw [if_neg (by omega)]; rfl)
theorem bytes_beq (a b : ByteArray) : (a.toList == b.toList) = decide (a = b) := by
  rw [ByteArray.toList_eq, ByteArray.toList_eq, Bool.eq_iff_iff]
  simp only [beq_iff_eq, decide_eq_true_eq]
  constructor
  · intro h; cases a; cases b; simp only [Array.toList_inj] at h; rw [h]
  · rintro rfl; rfl
theorem binStr_ok {P : Program} {β : Bnd} {H : Hp} {op : BinOp} {t : TypeId} {a b : ByteArray} {c : Prop} {r : SV}
    (h : binStr op a b = .q c r) (hc : c) : ∃ z, (∀ w, (binOp op t (.string a) (.string b)).run P w = .ok z w) ∧ Den β H r z := by
  cases op <;> simp only [binStr, Res.q.injEq, reduceCtorEq] at h <;> obtain ⟨rfl, rfl⟩ := h <;> refine ⟨_, fun w => ?_, den_val rfl⟩ <;>
    simp [binOp, Op.stringOp, bytes_beq]
  omega

theorem guard_ok {P : Program} {w : World} {op : BinOp} {t : TypeId} {ox oy : Operand} {u v : Value} (h : u.oneCell' = true) (h' : u ≠ .nilIface) :
    (eqGuard op t ox oy u v).run P w = .ok () w := by
  unfold eqGuard
  cases u <;> simp_all [Value.oneCell'] <;> (cases op <;> simp)

theorem ptr_under {P : Program} {t e : TypeId} {s b : Nat} {z : List SV} (h : tyOf P t = some ⟨.ptr e, s, b, z⟩) : P.underlying t = some (.pointer (P.pointee t)) := by
  obtain ⟨i, d, z', ht⟩ := tyOf_spec h
  have hk := ht.k
  have hu := ht.under
  cases d <;> simp [tk] at hk
  rw [hu]; simp [Program.pointee, hu]
theorem evBin_ok {P : Program} {β : Bnd} {H : Hp} {op : BinOp} {t : TypeId} {x y : Option SV} {ox oy : Operand} {u v : Value} {c : Prop} {r : SV}
    (h : evBin op (tyOf P t) x y = .q c r) (hc : c) (hx : ∀ s, x = some s → Den β H s u) (hy : ∀ s, y = some s → Den β H s v) :
    ∃ z, (∀ w, (do eqGuard op t ox oy u v; binOp op t u v : Sem Value).run P w = .ok z w) ∧ Den β H r z := by
  unfold evBin at h
  split at h
  · rename_i k m k' n
    have hu := hx _ rfl
    have hv := hy _ rfl
    simp only [Den] at hu hv
    obtain ⟨rfl, -⟩ := hu
    obtain ⟨rfl, -⟩ := hv
    simp only [Sem.run_bind, guard_ok (P := P) (op := op) (t := t) (ox := ox) (oy := oy) (v := .int k' n) (u := .int k m) rfl (by simp), Result.andThen_ok]
    split at h
    · exact shInt_ok h hc
    · split at h
      · rename_i hk; subst hk; exact binInt_ok h hc
      · cases h
  · rename_i a b
    have hu := hx _ rfl
    have hv := hy _ rfl
    simp only [Den] at hu hv
    obtain ⟨rfl, -⟩ := hu
    obtain ⟨rfl, -⟩ := hv
    simp only [Sem.run_bind, guard_ok (P := P) (op := op) (t := t) (ox := ox) (oy := oy) (v := .string b) (u := .string a) rfl (by simp), Result.andThen_ok]
    exact binStr_ok h hc
  · rename_i a b
    have hu := hx _ rfl
    have hv := hy _ rfl
    simp only [Den] at hu hv
    obtain ⟨rfl, -⟩ := hu
    obtain ⟨rfl, -⟩ := hv
    simp only [Sem.run_bind, guard_ok (P := P) (op := op) (t := t) (ox := ox) (oy := oy) (v := .bool b) (u := .bool a) rfl (by simp), Result.andThen_ok]
    have hb : ∀ s b z, tyOf P t = some ⟨.bool, s, b, z⟩ → P.underlying t = some .bool := fun s b z hti => by
      obtain ⟨i, d, z', ht⟩ := tyOf_spec hti
      have hk := ht.k
      have hd : d = .bool := by cases d <;> simp [tk] at hk; rfl
      rw [← hd]; exact ht.under
    split at h
    · rename_i hti
      simp only [Res.q.injEq] at h
      obtain ⟨-, rfl⟩ := h
      exact ⟨_, fun w => run_eql_bool w t a b (hb _ _ _ hti), den_val rfl⟩
    · rename_i hti
      simp only [Res.q.injEq] at h
      obtain ⟨-, rfl⟩ := h
      exact ⟨_, fun w => run_neq_bool w t a b (hb _ _ _ hti), den_val rfl⟩
    · cases h
  · have hu := hx _ rfl
    have hv := hy _ rfl
    simp only [Den] at hu hv
    obtain ⟨b, o, cs, v', rfl, -⟩ := hu
    obtain ⟨rfl, -⟩ := hv
    simp only [Sem.run_bind, guard_ok (P := P) (op := op) (t := t) (ox := ox) (oy := oy) (v := .pointer none) (u := .pointer (some ⟨b, _, none⟩)) rfl (by simp), Result.andThen_ok]
    split at h
    · rename_i hti
      simp only [Res.q.injEq] at h
      obtain ⟨-, rfl⟩ := h
      exact ⟨_, fun w => run_eql_pointer_nil w t _ (ptr_under hti), den_val rfl⟩
    · rename_i hti
      simp only [Res.q.injEq] at h
      obtain ⟨-, rfl⟩ := h
      exact ⟨_, fun w => run_neq_pointer_nil w t _ (ptr_under hti), den_val rfl⟩
    · cases h
  · have hu := hx _ rfl
    have hv := hy _ rfl
    simp only [Den] at hu hv
    obtain ⟨rfl, -⟩ := hu
    obtain ⟨rfl, -⟩ := hv
    simp only [Sem.run_bind, guard_ok (P := P) (op := op) (t := t) (ox := ox) (oy := oy) (v := .pointer none) (u := .pointer none) rfl (by simp), Result.andThen_ok]
    split at h
    · rename_i hti
      simp only [Res.q.injEq] at h
      obtain ⟨-, rfl⟩ := h
      exact ⟨_, fun w => run_eql_pointer_nil w t _ (ptr_under hti), den_val rfl⟩
    · rename_i hti
      simp only [Res.q.injEq] at h
      obtain ⟨-, rfl⟩ := h
      exact ⟨_, fun w => run_neq_pointer_nil w t _ (ptr_under hti), den_val rfl⟩
    · cases h
  · cases h

/-! ### Cells -/
theorem Addr.add_eq (b o n : Nat) : (⟨b, o, none⟩ : Addr).add n = ⟨b, o + n, none⟩ := by
  unfold Addr.add; split
  · rename_i h; simp [h]
  · rfl
theorem cell_of {w : World} {b o : Nat} {cs : Array Value} {T : TypeId} {z : Nat × Nat} (h : w.heap[b]? = some (.cells cs T z)) : w.cell? ⟨b, o, none⟩ = cs[o]? := by
  simp [World.cell?, h]

theorem run_loadCellsFrom {P : Program} {w : World} {b o : Nat} {cs : Array Value} {T : TypeId} {z : Nat × Nat} (h : w.heap[b]? = some (.cells cs T z)) :
    ∀ (n i : Nat) (acc : Array Value) (l : List Value), l.length = n → (∀ q, q < n → cs[o + i + q]? = l[q]?) →
      (loadCellsFrom ⟨b, o, none⟩ i n acc).run P w = .ok (acc ++ l.toArray) w
  | 0, i, acc, l, hl, _ => by
    have : l = [] := List.length_eq_zero_iff.1 hl
    simp [loadCellsFrom, this]
  | n + 1, i, acc, l, hl, hq => by
    match l, hl with
    | v :: l, hl =>
      have h0 : cs[o + i]? = some v := by simpa using hq 0 (by omega)
      have ih := run_loadCellsFrom (P := P) (o := o) h n (i + 1) (acc.push v) l (by simpa using hl) (fun q hq' => by
        have := hq (q + 1) (by omega)
        rw [show o + (i + 1) + q = o + i + (q + 1) from by omega, this]; simp)
      simp only [loadCellsFrom, Addr.add_eq, Sem.run_bind, run_load, cell_of h, h0, Result.andThen_ok, ih]
      simp
theorem run_loadCells {P : Program} {w : World} {b o : Nat} {cs : Array Value} {T : TypeId} {z : Nat × Nat} (h : w.heap[b]? = some (.cells cs T z)) (l : List Value)
    (hq : ∀ q, q < l.length → cs[o + q]? = l[q]?) : (loadCells ⟨b, o, none⟩ l.length).run P w = .ok l.toArray w := by
  unfold loadCells
  rw [run_loadCellsFrom h l.length 0 #[] l rfl (by simpa using hq)]; simp

theorem run_storeCells {P : Program} {b : Nat} {T : TypeId} : ∀ (l : List Value) (w : World) (o i : Nat) (cs : Array Value), w.heap[b]? = some (.cells cs T (0, 0)) → o + i + l.length ≤ cs.size →
    (∀ v ∈ l, v.oneCell' = true) → ∃ w' cs', (storeCells ⟨b, o, none⟩ l i).run P w = .ok () w' ∧ Wr w b cs' T w' ∧ cs'.size = cs.size ∧
      ∀ q, cs'[q]? = if o + i ≤ q ∧ q < o + i + l.length then l[q - (o + i)]? else cs[q]?
  | [], w, o, i, cs, h, _, _ => ⟨w, cs, by simp [storeCells], ⟨rfl, rfl, rfl, rfl, h, fun _ _ => rfl⟩, rfl, fun q => by rw [if_neg (by simp)]⟩
  | v :: l, w, o, i, cs, h, hs, hv => by
    have hlt : o + i < cs.size := by simp only [List.length_cons] at hs; omega
    have hc : w.cell? ⟨b, o + i, none⟩ = some cs[o + i] := by rw [cell_of h]; exact Array.getElem?_eq_getElem hlt
    have hfz : w.frozen? ⟨b, o + i, none⟩ = false := by simp [World.frozen?, h]
    have hh : (w.setCell ⟨b, o + i, none⟩ v).heap[b]? = some (.cells (cs.setIfInBounds (o + i) v) T (0, 0)) := by
      simp only [World.setCell]; rw [Array.getElem?_modify]; simp [h]
    obtain ⟨w', cs', h1, h2, h3, h4⟩ := run_storeCells (P := P) (T := T) l (w.setCell ⟨b, o + i, none⟩ v) o (i + 1) _ hh (by simp at hs ⊢; omega) (fun u hu => hv u (by simp [hu]))
    refine ⟨w', cs', ?_, ⟨h2.os, h2.tape, h2.output, by rw [h2.size]; simp, h2.here, fun b' hb => ?_⟩, by simpa using h3, fun q => ?_⟩
    · simp only [storeCells, Addr.add_eq, Sem.run_bind]
      rw [run_store P w _ v .plain (hv v (by simp))]
      simp only [hc, hfz, Bool.false_eq_true, if_false, Result.andThen_ok]
      exact h1
    · rw [h2.there b' hb]
      exact Below.heap_setCell w ⟨b, o + i, none⟩ v b' hb
    · rw [h4]
      simp only [List.length_cons]
      by_cases hq : q = o + i
      · subst hq
        rw [if_neg (by omega), if_pos (by omega)]
        simp [Array.getElem?_setIfInBounds_self_of_lt hlt]
      · rw [Array.getElem?_setIfInBounds_ne (Ne.symm hq)]
        by_cases hq' : o + (i + 1) ≤ q ∧ q < o + (i + 1) + l.length
        · rw [if_pos hq', if_pos (by omega), show q - (o + i) = (q - (o + (i + 1))) + 1 from by omega]; simp
        · rw [if_neg hq', if_neg (by omega)]

theorem Den.cellsL {β : Bnd} {H : Hp} {x : SV} {v : Value} (h : Den β H x v) (hx : ∀ l, x ≠ .tup l) : DenL β H x.cells v.cells.toList := by
  cases x
  case tup l => exact absurd rfl (hx l)
  case agg l => simp only [Den] at h; obtain ⟨vs, rfl, h⟩ := h; simpa [SV.cells, Value.cells] using h
  case val u =>
    simp only [Den] at h
    obtain ⟨rfl, h2⟩ := h
    rw [oneCell_cells h2]
    simp [SV.cells, DenL, SV.one, h2, Den]
  all_goals
    rw [oneCell_cells (Den.one h rfl)]
    simp only [SV.cells, DenL]
    exact ⟨_, [], by simp, rfl, h, rfl⟩
theorem DenL.drop {β : Bnd} {H : Hp} : ∀ {l : List SV} {vs : List Value} (n : Nat), DenL β H l vs → DenL β H (l.drop n) (vs.drop n)
  | [], vs, n, h => by simp only [DenL] at h; simp [h, DenL]
  | x :: l, vs, 0, h => by simpa using h
  | x :: l, vs, n + 1, h => by
    simp only [DenL] at h
    obtain ⟨v, r, rfl, _, _, h4⟩ := h
    simpa using h4.drop n
theorem DenL.take {β : Bnd} {H : Hp} : ∀ {l : List SV} {vs : List Value} (n : Nat), DenL β H l vs → DenL β H (l.take n) (vs.take n)
  | [], vs, n, h => by simp only [DenL] at h; simp [h, DenL]
  | x :: l, vs, 0, h => by simp [DenL]
  | x :: l, vs, n + 1, h => by
    simp only [DenL] at h
    obtain ⟨v, r, rfl, h2, h3, h4⟩ := h
    simp only [List.take_succ_cons, DenL]
    exact ⟨v, _, rfl, h2, h3, h4.take n⟩
theorem DenL.append {β : Bnd} {H : Hp} : ∀ {l l' : List SV} {vs vs' : List Value}, DenL β H l vs → DenL β H l' vs' → DenL β H (l ++ l') (vs ++ vs')
  | [], l', vs, vs', h, h' => by simp only [DenL] at h; simpa [h] using h'
  | x :: l, l', vs, vs', h, h' => by
    simp only [DenL, List.cons_append] at h ⊢
    obtain ⟨v, r, rfl, h2, h3, h4⟩ := h
    exact ⟨v, r ++ vs', by simp, h2, h3, h4.append h'⟩
theorem DenL.ones {β : Bnd} {H : Hp} : ∀ {l : List SV} {vs : List Value}, DenL β H l vs → ∀ v ∈ vs, v.oneCell' = true
  | [], vs, h, v, hv => by simp only [DenL] at h; simp [h] at hv
  | x :: l, vs, h, v, hv => by
    simp only [DenL] at h
    obtain ⟨u, r, rfl, h2, h3, h4⟩ := h
    rcases List.mem_cons.1 hv with rfl | hv
    · exact h3.one h2
    · exact h4.ones v hv

def SV.isAgg : SV → Bool
  | .agg _ => true
  | _ => false
def SV.isTup : SV → Bool
  | .tup _ => true
  | _ => false

/-- what a load of a type reads at cell j of an element -/
def loadSV (ti : TI) (x : SV) (j : Nat) : SV :=
  if j = 0 ∧ x.csz = ti.size ∧ x.isAgg = ti.k.isAgg then x else if ti.k.isAgg = true then .agg ((x.cells.drop j).take ti.size) else lget x.cells j

theorem load_core {P : Program} {β : Bnd} {H : Hp} {t : TypeId} {ti : TI} (ht : tyOf P t = some ti) {b o j : Nat} {cs : Array Value} {x : SV} {v : Value} (hx : Den β H x v) (hnt : x.isTup = false) (hq : ∀ q, q < v.cells.size → cs[o + q]? = v.cells[q]?) (hj : j + ti.size ≤ x.csz) :
    ∃ u, (∀ w T z, w.heap[b]? = some (.cells cs T z) → (loadVar t ⟨b, o + j, none⟩).run P w = .ok u w) ∧ Den β H (loadSV ti x j) u := by
  obtain ⟨i, d, zv, hty⟩ := tyOf_spec ht
  have hnt' : ∀ l, x ≠ .tup l := fun l e => by subst e; simp [SV.isTup] at hnt
  have hsz : v.cells.size = x.csz := (hx.notTuple).resolve_left fun ⟨l, e⟩ => hnt' l e
  have hcl := hx.cellsL hnt'
  unfold loadVar
  simp only [Sem.run_bind, hty.runAgg, Result.andThen_ok]
  by_cases ha : ti.k.isAgg = true
  · simp only [ha, if_true, Sem.run_bind, hty.runSize, Result.andThen_ok]
    have hlen : ((v.cells.toList.drop j).take ti.size).length = ti.size := by simp; omega
    have hld := fun (w : World) T z (h : w.heap[b]? = some (.cells cs T z)) => run_loadCells (P := P) (o := o + j) h ((v.cells.toList.drop j).take ti.size) (fun q hq' => by
      rw [hlen] at hq'
      rw [List.getElem?_take_of_lt hq', List.getElem?_drop, Nat.add_assoc, hq (j + q) (by omega)]
      simp)
    simp only [hlen] at hld
    refine ⟨.agg ((v.cells.toList.drop j).take ti.size).toArray, fun w T z h => by simp [hld w T z h], ?_⟩
    unfold loadSV
    split
    · rename_i hc
      obtain ⟨rfl, hc1, hc2⟩ := hc
      rw [ha] at hc2
      cases x <;> simp [SV.isAgg] at hc2
      simp only [Den] at hx
      obtain ⟨vs, rfl, hvs⟩ := hx
      simp only [Den]
      refine ⟨vs, ?_, hvs⟩
      have := hvs.length
      simp only [SV.csz] at hc1
      simp only [Value.cells, List.drop_zero]
      rw [List.take_of_length_le (by omega)]
    · simp only [Den]
      exact ⟨_, rfl, (hcl.drop j).take ti.size⟩
  · have ha' : ti.k.isAgg = false := by simpa using ha
    have h1 : ti.size = 1 := by
      rw [hty.size]
      refine hty.one.resolve_left ?_
      rw [← tk_isAgg P, ← hty.k]; exact ha
    have hlt : j < v.cells.size := by omega
    have hc : ∀ (w : World) T z, w.heap[b]? = some (.cells cs T z) → w.cell? ⟨b, o + j, none⟩ = some v.cells[j] := fun w T z h => by rw [cell_of h, hq j hlt]; exact Array.getElem?_eq_getElem hlt
    refine ⟨v.cells[j], fun w T z h => by simp only [ha', Bool.false_eq_true, if_false, run_load, hc w T z h], ?_⟩
    obtain ⟨u, hu1, hu2, hu3⟩ := hcl.get (i := j) (by rw [← hcl.length]; simpa using hlt)
    have hu : v.cells[j] = u := by
      have : v.cells.toList[j]? = some v.cells[j] := by rw [Array.getElem?_toList]; exact Array.getElem?_eq_getElem hlt
      rw [this] at hu1; simpa using hu1
    rw [hu]
    unfold loadSV
    split
    · rename_i hc
      obtain ⟨rfl, hc1, hc2⟩ := hc
      rw [ha'] at hc2
      cases x
      case agg l => simp [SV.isAgg] at hc2
      case tup l => exact absurd rfl (hnt' l)
      all_goals exact hu3
    · first
        | exact hu3
        | (rw [if_neg (by simp [ha'])]; exact hu3)

end Go.Sv

