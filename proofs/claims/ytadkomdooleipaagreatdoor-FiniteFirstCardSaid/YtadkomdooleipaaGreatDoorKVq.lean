/- Structs whose fields are plain, held against each other. A text of the prover's own; it names no program. -/
import Derived.Test.YtadkomdooleipaaGreatDoorKVc
import Derived.ChangeKeysEq
namespace Go.Sv
open Go
/-- kinds of fields that are plain and stand one behind the other -/
def eqFs (P : Program) : List Field → Nat → Option (List TK)
  | [], _ => some []
  | f :: fs, k => if f.name ≠ "_" ∧ f.offset = k then
      match P.underlying f.type, eqFs P fs (k + 1) with
      | some .string, some r => some (.str :: r)
      | some .bool, some r => some (.bool :: r)
      | some (.int κ), some r => some (.int κ :: r)
      | _, _ => none
    else none
/-- kinds of a struct's fields, if two such structs may be held against each other so -/
def eqTys (P : Program) (t : TypeId) : Option (List TK) :=
  match P.underlying t with
  | some (.struct fs) => if P.stoodInHeld t = false ∧ P.eqGuardType P.depth t = false ∧ fs.size ≤ 100 then eqFs P fs.toList 0 else none
  | _ => none
def eqV : TK → SV → SV → Option Bool
  | .str, .val (.string a), .val (.string b) => some (decide (a = b))
  | .bool, .val (.bool a), .val (.bool b) => some (a == b)
  | .int κ, .val (.int κ' a), .val (.int κ'' b) => if κ' = κ ∧ κ'' = κ then some (decide (a = b)) else none
  | _, _, _ => none
def aggEq : List TK → List SV → List SV → Option Bool
  | [], [], [] => some true
  | k :: ks, x :: a, y :: b => match eqV k x y, aggEq ks a b with
    | some e, some r => some (e && r)
    | _, _ => none
  | _, _, _ => none
def evAggEq (op : BinOp) (ks : Option (List TK)) (a b : List SV) : Res :=
  match op, ks with
  | .eql, some ks => match aggEq ks a b with
    | some e => .q True (.val (.bool e))
    | none => .stuck
  | .neq, some ks => match aggEq ks a b with
    | some e => .q True (.val (.bool (!e)))
    | none => .stuck
  | _, _ => .stuck
section
variable {P : Program} {β : Bnd} {H : Hp}
theorem eqV_ok {k : TK} {x y : SV} {e : Bool} {f : TypeId} {d : Nat} {u v : Value} (h : eqV k x y = some e) (hx : Den β H x u) (hy : Den β H y v)
    (hf : (k = .str ∧ P.underlying f = some .string) ∨ (k = .bool ∧ P.underlying f = some .bool) ∨ (∃ κ, k = .int κ ∧ P.underlying f = some (.int κ))) :
    ∀ w, (Op.equalIn (d + 1) f u v).run P w = .ok e w := by
  intro w
  unfold eqV at h
  split at h
  · rename_i a b
    simp only [Den] at hx hy
    obtain ⟨rfl, -⟩ := hx
    obtain ⟨rfl, -⟩ := hy
    simp only [Option.some.injEq] at h
    subst h
    rcases hf with ⟨-, hu⟩ | ⟨hk, -⟩ | ⟨κ, hk, -⟩
    · rw [run_equalIn_string w d f a b hu, bytes_beq]
    · cases hk
    · cases hk
  · rename_i a b
    simp only [Den] at hx hy
    obtain ⟨rfl, -⟩ := hx
    obtain ⟨rfl, -⟩ := hy
    simp only [Option.some.injEq] at h
    subst h
    rcases hf with ⟨hk, -⟩ | ⟨-, hu⟩ | ⟨κ, hk, -⟩
    · cases hk
    · exact run_equalIn_bool' w d f a b hu
    · cases hk
  · rename_i κ κ' a κ'' b
    simp only [Den] at hx hy
    obtain ⟨rfl, -⟩ := hx
    obtain ⟨rfl, -⟩ := hy
    split at h
    · rename_i hk
      obtain ⟨rfl, rfl⟩ := hk
      simp only [Option.some.injEq] at h
      subst h
      rcases hf with ⟨hk, -⟩ | ⟨hk, -⟩ | ⟨κ, hk, hu⟩
      · cases hk
      · cases hk
      · rw [run_equalIn_int w d f κ'' κ a b hu]; rfl
    · cases h
  · cases h
theorem eqFs_cons {f : Field} {fs : List Field} {k : Nat} {ks : List TK} (h : eqFs P (f :: fs) k = some ks) :
    f.name ≠ "_" ∧ f.offset = k ∧ ∃ q r, ks = q :: r ∧ eqFs P fs (k + 1) = some r ∧ P.plainKey f.type = true ∧
      ((q = .str ∧ P.underlying f.type = some .string) ∨ (q = .bool ∧ P.underlying f.type = some .bool) ∨ (∃ κ, q = .int κ ∧ P.underlying f.type = some (.int κ))) := by
  unfold eqFs at h
  split at h
  · rename_i hc
    refine ⟨hc.1, hc.2, ?_⟩
    split at h
    · rename_i r hu hr
      simp only [Option.some.injEq] at h
      exact ⟨_, r, h.symm, hr, by simp [Program.plainKey, hu], .inl ⟨rfl, hu⟩⟩
    · rename_i r hu hr
      simp only [Option.some.injEq] at h
      exact ⟨_, r, h.symm, hr, by simp [Program.plainKey, hu], .inr (.inl ⟨rfl, hu⟩)⟩
    · rename_i κ r hu hr
      simp only [Option.some.injEq] at h
      exact ⟨_, r, h.symm, hr, by simp [Program.plainKey, hu], .inr (.inr ⟨κ, rfl, hu⟩)⟩
    · cases h
  · cases h
theorem aggEq_ok {d : Nat} {xs ys : Array Value} : ∀ {fs : List Field} {k : Nat} {ks : List TK} {a b : List SV} {e : Bool}, eqFs P fs k = some ks → aggEq ks a b = some e → DenL β H a (xs.toList.drop k) → DenL β H b (ys.toList.drop k) →
    ∀ w, (Op.eqFields (d + 1) xs ys fs).run P w = .ok e w
  | [], k, ks, a, b, e, hf, ha, hx, hy, w => by
    simp only [eqFs, Option.some.injEq] at hf
    subst hf
    unfold aggEq at ha
    split at ha
    · simp only [Option.some.injEq] at ha; subst ha; simp [Op.eqFields]
    · contradiction
    · cases ha
  | f :: fs, k, ks, a, b, e, hf, ha, hx, hy, w => by
    obtain ⟨hn, ho, q, r, rfl, hr, hp, hq⟩ := eqFs_cons hf
    unfold aggEq at ha
    split at ha
    · contradiction
    · rename_i q' r' x a' y b' h1
      simp only [List.cons.injEq] at h1
      obtain ⟨rfl, rfl⟩ := h1
      split at ha
      · rename_i e1 e2 g1 g2
        simp only [Option.some.injEq] at ha
        simp only [DenL] at hx hy
        obtain ⟨u, us, hu, -, hxu, hxr⟩ := hx
        obtain ⟨v, vs, hv, -, hyv, hyr⟩ := hy
        have dx : xs[k]? = some u ∧ us = xs.toList.drop (k + 1) := by
          have hlt : k < xs.toList.length := by
            rcases Nat.lt_or_ge k xs.toList.length with h | h
            · exact h
            · rw [List.drop_of_length_le h] at hu; cases hu
          rw [List.drop_eq_getElem_cons hlt] at hu
          simp only [List.cons.injEq] at hu
          refine ⟨?_, hu.2.symm⟩
          rw [← Array.getElem?_toList, List.getElem?_eq_getElem hlt, hu.1]
        have dy : ys[k]? = some v ∧ vs = ys.toList.drop (k + 1) := by
          have hlt : k < ys.toList.length := by
            rcases Nat.lt_or_ge k ys.toList.length with h | h
            · exact h
            · rw [List.drop_of_length_le h] at hv; cases hv
          rw [List.drop_eq_getElem_cons hlt] at hv
          simp only [List.cons.injEq] at hv
          refine ⟨?_, hv.2.symm⟩
          rw [← Array.getElem?_toList, List.getElem?_eq_getElem hlt, hv.1]
        rw [dx.2] at hxr
        rw [dy.2] at hyr
        unfold Op.eqFields
        rw [if_pos hn, ho]
        simp only [Sem.run_bind, run_part_plain w hp dx.1, run_part_plain w hp dy.1, Result.andThen_ok, eqV_ok (P := P) (d := d) g1 hxu hyv hq w]
        have ih := aggEq_ok (d := d) hr g2 hxr hyr w
        subst ha
        cases e1 with
        | false => simp
        | true => simpa using ih
      · cases ha
    · cases ha
theorem evAggEq_ok {op : BinOp} {t : TypeId} {a b : List SV} {ox oy : Operand} {u v : Value} {c : Prop} {r : SV} (h : evAggEq op (eqTys P t) a b = .q c r) (hx : Den β H (.agg a) u) (hy : Den β H (.agg b) v) :
    ∃ z, (∀ w, (do eqGuard op t ox oy u v; binOp op t u v : Sem Value).run P w = .ok z w) ∧ Den β H r z := by
  simp only [Den] at hx hy
  obtain ⟨us, rfl, hus⟩ := hx
  obtain ⟨vs, rfl, hvs⟩ := hy
  have key : ∀ ks e, eqTys P t = some ks → aggEq ks a b = some e → P.eqGuardType P.depth t = false ∧ ∀ w, (Op.equalIn 10000 t (.agg us.toArray) (.agg vs.toArray)).run P w = .ok e w := fun ks e h1 h2 => by
    unfold eqTys at h1
    split at h1
    · rename_i fs hu
      split at h1
      · rename_i hc
        have hF : P.fieldsOf t = fs := by simp [Program.fieldsOf, hu]
        refine ⟨hc.2.1, fun w => ?_⟩
        rw [run_equalIn_struct w 9999 t us.toArray vs.toArray (by rw [hF]; exact hu) hc.1, hF]
        exact aggEq_ok (d := 9998) h1 h2 (by simpa using hus) (by simpa using hvs) w
      · cases h1
    · cases h1
  unfold evAggEq at h
  split at h
  · rename_i ks hk
    split at h
    · rename_i e he
      simp only [Res.q.injEq] at h
      obtain ⟨-, rfl⟩ := h
      obtain ⟨k1, k2⟩ := key ks e hk he
      refine ⟨.bool e, fun w => ?_, by simp [Den, Value.oneCell']⟩
      simp only [Sem.run_bind, run_eqGuard_agg w .eql t ox oy us.toArray vs.toArray k1, Result.andThen_ok, run_eql_struct, k2]
    · cases h
  · rename_i ks hk
    split at h
    · rename_i e he
      simp only [Res.q.injEq] at h
      obtain ⟨-, rfl⟩ := h
      obtain ⟨k1, k2⟩ := key ks e hk he
      refine ⟨.bool (!e), fun w => ?_, by simp [Den, Value.oneCell']⟩
      simp only [Sem.run_bind, run_eqGuard_agg w .neq t ox oy us.toArray vs.toArray k1, Result.andThen_ok, run_neq_struct, k2]
    · cases h
  · cases h
end
end Go.Sv

