/- What the operations of maps make of symbolic values. A text of the prover's own; it names no program. -/
import Derived.Test.YtadkomdooleipaaGreatDoorKVa
import Derived.MapKept
import Derived.Laws.StructEq
namespace Go.Sv
open Go Go.RowKit

/-- two keys of one kind: are they the same? -/
def keq : Value → Value → Option Bool
  | .int k a, .int k' b => if k = k' then some (decide (a = b)) else none
  | .string a, .string b => some (decide (a = b))
  | .bool a, .bool b => some (decide (a = b))
  | _, _ => none
/-- is it a key of such a type? -/
def kfit (ti : Option TI) (v : Value) : Bool :=
  match ti, v with
  | some ⟨.int k, _, _, _⟩, .int k' _ => decide (k = k')
  | some ⟨.str, _, _, _⟩, .string _ => true
  | some ⟨.bool, _, _, _⟩, .bool _ => true
  | _, _ => false
def kgo (v : Value) (u : Value) (y : SV) (i : Nat) (r : Option (Option (Nat × SV))) : Option (Option (Nat × SV)) :=
  match keq v u with
  | some true => some (some (i, y))
  | some false => r
  | none => none
def kent : SV → Option (Value × SV)
  | .tup [.val u, y] => some (u, y)
  | _ => none
/-- at which place a key stands, and with what; none: that is not told -/
def kfind (v : Value) : List SV → Nat → Option (Option (Nat × SV))
  | [], _ => some none
  | x :: l, i => match kent x with
    | some (u, y) => kgo v u y i (kfind v l (i + 1))
    | none => none
/-- an entry with another value -/
def kput (x y : SV) : SV := match x with
  | .tup [u, _] => .tup [u, y]
  | x => x
def two (ok : Bool) (y : SV) (b : Bool) : SV := if ok = true then .tup [y, .val (.bool b)] else y

def lkR (ok : Bool) (M : Tab) (te : TI) (r : Option (Option (Nat × SV))) : MRes := match r with
  | some (some (_, y)) => .m True M [] (some (two ok y true))
  | some none => .m True M [] (some (two ok te.zsv false))
  | none => .stuck
def lkE (ok : Bool) (M : Tab) (tk' : Option TI) (v : Value) (te : Option TI) (e : Option Ent) : MRes := match te, e with
  | some te, some e => if e.sz = 0 ∧ kfit tk' v = true then lkR ok M te (kfind v e.es 0) else .stuck
  | _, _ => .stuck
def lkN (ok : Bool) (M : Tab) (tk' : Option TI) (v : Value) (te : Option TI) : MRes := match te with
  | some te => if kfit tk' v = true then .m True M [] (some (two ok te.zsv false)) else .stuck
  | none => .stuck
def evLookup (P : Program) (M : Tab) (ti : Option TI) (x i : Option SV) (ok : Bool) : MRes :=
  match ti, x, i with
  | some ⟨.mp kt et, _, _, _⟩, some (.mp k), some (.val v) => lkE ok M (tyOf P kt) v (tyOf P et) (tget M k)
  | some ⟨.mp kt et, _, _, _⟩, some (.val (.map none)), some (.val v) => lkN ok M (tyOf P kt) v (tyOf P et)
  | _, _, _ => .stuck
def upR (M : Tab) (k : Nat) (es : List SV) (v : Value) (y : SV) (r : Option (Option (Nat × SV))) : MRes := match r with
  | some (some (j, _)) => .m True (tset M k (some ⟨0, lset es j (.tup [.val v, y]), false⟩)) [] none
  | some none => .m True (tset M k (some ⟨0, es ++ [.tup [.val v, y]], false⟩)) [] none
  | none => .stuck
def upE (M : Tab) (k : Nat) (tk' : Option TI) (v : Value) (y : SV) (e : Option Ent) : MRes := match e with
  | some e => if e.sz = 0 ∧ e.fz = false ∧ kfit tk' v = true then upR M k e.es v y (kfind v e.es 0) else .stuck
  | none => .stuck
def evMapUpd (P : Program) (M : Tab) (ti : Option TI) (m i x : Option SV) : MRes :=
  match ti, m, i, x with
  | some ⟨.mp kt _, _, _, _⟩, some (.mp k), some (.val v), some y => upE M k (tyOf P kt) v y (tget M k)
  | _, _, _, _ => .stuck
def enR (M : Tab) (k : Nat) (es : List SV) (v : Value) (te : TI) (r : Option (Option (Nat × SV))) : MRes := match r with
  | some (some (j, y)) => .m True M [] (some (.tup [y, .val (.int .i64 (j : Nat))]))
  | some none => .m True (tset M k (some ⟨0, es ++ [.tup [.val v, te.zsv]], false⟩)) [] (some (.tup [te.zsv, .val (.int .i64 es.length)]))
  | none => .stuck
def enE (M : Tab) (k : Nat) (tk' : Option TI) (v : Value) (te : Option TI) (e : Option Ent) : MRes := match te, e with
  | some te, some e => if e.sz = 0 ∧ e.fz = false ∧ kfit tk' v = true then enR M k e.es v te (kfind v e.es 0) else .stuck
  | _, _ => .stuck
def evMapEntry (P : Program) (M : Tab) (ti : Option TI) (m i : Option SV) : MRes :=
  match ti, m, i with
  | some ⟨.mp kt et, _, _, _⟩, some (.mp k), some (.val v) => enE M k (tyOf P kt) v (tyOf P et) (tget M k)
  | _, _, _ => .stuck
def esE (M : Tab) (k : Nat) (n : Int) (y : SV) (e : Option Ent) : MRes := match e with
  | some e => if e.sz = 0 ∧ e.fz = false then .m (0 ≤ n ∧ n < e.es.length) (tset M k (some ⟨0, lset e.es n.toNat (kput (lget e.es n.toNat) y), false⟩)) [] none else .stuck
  | none => .stuck
def evEntryStore (M : Tab) (m s x : Option SV) : MRes :=
  match m, s, x with
  | some (.mp k), some (.val (.int _ n)), some y => esE M k n y (tget M k)
  | _, _, _ => .stuck
def mlE (M : Tab) (e : Option Ent) : MRes := match e with
  | some e => if e.sz = 0 then .m True M [] (some (.val (.int .i64 e.es.length))) else .stuck
  | none => .stuck
def evMapLen (M : Tab) (ti : Option TI) (x : Option SV) : MRes :=
  match ti, x with
  | some ⟨.mp _ _, _, _, _⟩, some (.mp k) => mlE M (tget M k)
  | some ⟨.mp _ _, _, _, _⟩, some (.val (.map none)) => .m True M [] (some (.val (.int .i64 0)))
  | _, _ => .stuck
def evMakeMap (M : Tab) (ti : Option TI) (x : Option (Option SV)) : MRes :=
  match ti, x with
  | some ⟨.mp _ _, _, _, _⟩, none => .m True (M ++ [some ⟨0, [], false⟩]) [] (some (.mp M.length))
  | some ⟨.mp _ _, _, _, _⟩, some (some (.val (.int _ _))) => .m True (M ++ [some ⟨0, [], false⟩]) [] (some (.mp M.length))
  | _, _ => .stuck

section
variable {P : Program} {C : Ctx} {β : Bnd} {H : Hp} {M : Tab} {w : World} {c : Prop}

theorem tk_mp {d : TypeDesc} {k e : TypeId} (h : TK.mp k e = tk P d) : d = .map k e := by
  cases d <;> simp [tk] at h; rw [h.1, h.2]
theorem str_beq (a b : ByteArray) : (a == b) = decide (a = b) := by
  rw [beq_toListBytes, bytes_beq]
theorem modify_at {α : Type} {l : List α} {j : Nat} {x : α} (f : α → α) (h : l[j]? = some x) : l.modify j f = l.set j (f x) := by
  induction l generalizing j with
  | nil => simp at h
  | cons y l ih => cases j with
    | zero => simp at h; simp [h]
    | succ j => simp at h ⊢; exact ih h
theorem kfit_ok {kt : TypeId} {v : Value} (h : kfit (tyOf P kt) v = true) : keyV v = true ∧ ∃ d, P.underlying kt = some d ∧ (∀ u, Instr.sameNow d v u = keq v u) ∧ ∀ (e : Bool) (n : Nat) (w : World), (Instr.checkKey e (n + 1) kt v).run P w = .ok () w := by
  unfold kfit at h
  split at h
  · rename_i k _ _ _ k' a hti
    obtain ⟨i, d, z, ht⟩ := tyOf_spec hti
    obtain rfl := tk_int ht.k
    obtain rfl : k = k' := by simpa using h
    refine ⟨rfl, _, ht.under, fun u => ?_, fun e n w => ?_⟩
    · cases u <;> simp [Instr.sameNow, keq, BEq.beq]
    · simp [Instr.checkKey, ht.runUnder]
  · rename_i _ _ _ a hti
    obtain ⟨i, d, z, ht⟩ := tyOf_spec hti
    obtain rfl := tk_str ht.k
    refine ⟨rfl, _, ht.under, fun u => ?_, fun e n w => ?_⟩
    · cases u <;> simp [Instr.sameNow, keq, str_beq]
    · simp [Instr.checkKey, ht.runUnder]
  · rename_i _ _ _ a hti
    obtain ⟨i, d, z, ht⟩ := tyOf_spec hti
    have : d = .bool := by
      have hk := ht.k
      cases d <;> simp [tk] at hk; rfl
    subst this
    refine ⟨rfl, _, ht.under, fun u => ?_, fun e n w => ?_⟩
    · cases u <;> simp [Instr.sameNow, keq, BEq.beq]
    · simp [Instr.checkKey, ht.runUnder]
  · cases h

theorem keq_true {v u : Value} (h : keq v u = some true) : v = u := by
  unfold keq at h
  split at h
  · split at h
    · rename_i hk; simp at h; rw [hk, h]
    · cases h
  · simp at h; rw [h]
  · simp at h; rw [h]
  · cases h

/-- what is found -/
theorem kfind_ok {d : TypeDesc} {v : Value} (hs : ∀ u, Instr.sameNow d v u = keq v u) : ∀ {es : List SV} {ms : List MapEntry} {n i : Nat} {r : Option (Nat × SV)}, DenK β H es ms n → kfind v es i = some r →
    (r = none ∧ Instr.findNow d v ms i = some none) ∨
    (∃ j y m, r = some (j, y) ∧ i ≤ j ∧ j < i + es.length ∧ Instr.findNow d v ms i = some (some (j, m.val)) ∧ ms[j - i]? = some m ∧ m.key = v ∧ m.born = n + (j - i) ∧ Den β H y m.val)
  | [], ms, n, i, r, h, hf => by
    simp only [DenK] at h
    subst h
    simp only [kfind, Option.some.injEq] at hf
    exact .inl ⟨hf.symm, rfl⟩
  | x :: es, ms, n, i, r, h, hf => by
    simp only [DenK] at h
    obtain ⟨key, y, m, q, rfl, rfl, h3, h4, h5, h6, h7⟩ := h
    simp only [kfind, kent, kgo] at hf
    cases hq : keq v key with
    | none => rw [hq] at hf; cases hf
    | some b =>
      rw [hq] at hf
      have hsn : Instr.sameNow d v m.key = some b := by rw [hs, h3, hq]
      cases b with
      | true =>
        simp only [Option.some.injEq] at hf
        refine .inr ⟨i, y, m, hf.symm, Nat.le_refl _, by simp, ?_, by simp, by rw [h3, keq_true hq], by simp [h5], h6⟩
        simp [Instr.findNow, hsn]
      | false =>
        simp only at hf
        have hfn : Instr.findNow d v (m :: q) i = Instr.findNow d v q (i + 1) := by simp [Instr.findNow, hsn]
        rcases kfind_ok hs h7 hf with ⟨g1, g2⟩ | ⟨j, y', m', g1, g2, g3, g4, g5, g6, g7, g8⟩
        · exact .inl ⟨g1, by rw [hfn]; exact g2⟩
        · refine .inr ⟨j, y', m', g1, by omega, by simp; omega, by rw [hfn]; exact g4, ?_, g6, by omega, g8⟩
          rw [show j - i = (j - (i + 1)) + 1 by omega]
          simpa using g5

theorem DenK.append {es : List SV} {ms : List MapEntry} {n : Nat} (h : DenK β H es ms n) {v : Value} {y : SV} {m : MapEntry} (hm : m.key = v) (hv : keyV v = true) (hb : m.born = n + es.length) (hy : Den β H y m.val) : DenK β H (es ++ [.tup [.val v, y]]) (ms ++ [m]) n := by
  induction es generalizing ms n with
  | nil =>
    simp only [DenK] at h
    subst h
    simp only [List.nil_append, DenK]
    exact ⟨v, y, m, [], rfl, rfl, hm, hv, by simpa using hb, hy, rfl⟩
  | cons x es ih =>
    simp only [DenK] at h
    obtain ⟨key, y', m', q, rfl, rfl, h3, h4, h5, h6, h7⟩ := h
    simp only [List.cons_append, DenK]
    exact ⟨key, y', m', q ++ [m], rfl, rfl, h3, h4, h5, h6, ih h7 (by rw [hb]; simp; omega)⟩
theorem DenK.set {es : List SV} {ms : List MapEntry} {n j : Nat} (h : DenK β H es ms n) {v : Value} {y : SV} {m m' : MapEntry} (hj : ms[j]? = some m) (hm : m'.key = v) (hv : keyV v = true) (hb : m'.born = m.born) (hy : Den β H y m'.val) : DenK β H (lset es j (.tup [.val v, y])) (ms.set j m') n := by
  induction es generalizing ms n j with
  | nil =>
    simp only [DenK] at h
    subst h
    simp at hj
  | cons x es ih =>
    simp only [DenK] at h
    obtain ⟨key, y', m0, q, rfl, rfl, h3, h4, h5, h6, h7⟩ := h
    cases j with
    | zero =>
      simp only [List.getElem?_cons_zero, Option.some.injEq] at hj
      subst hj
      simp only [lset, List.set_cons_zero, DenK]
      exact ⟨v, y, m', q, rfl, rfl, hm, hv, by rw [hb, h5], hy, h7⟩
    | succ j =>
      simp only [lset, List.set_cons_succ, DenK]
      exact ⟨key, y', m0, _, rfl, rfl, h3, h4, h5, h6, ih h7 (by simpa using hj)⟩
theorem DenK.born {es : List SV} {ms : List MapEntry} {n : Nat} (h : DenK β H es ms n) {j : Nat} {m : MapEntry} (hj : ms[j]? = some m) : m.born = n + j := by
  induction es generalizing ms n j with
  | nil => simp only [DenK] at h; subst h; simp at hj
  | cons x es ih =>
    simp only [DenK] at h
    obtain ⟨key, y', m0, q, rfl, rfl, h3, h4, h5, h6, h7⟩ := h
    cases j with
    | zero => simp only [List.getElem?_cons_zero, Option.some.injEq] at hj; subst hj; simp [h5]
    | succ j => have := ih h7 (j := j) (by simpa using hj); omega
theorem DenK.at_ {es : List SV} {ms : List MapEntry} {n : Nat} (h : DenK β H es ms n) {j : Nat} (hj : j < es.length) : ∃ v y m, lget es j = .tup [.val v, y] ∧ ms[j]? = some m ∧ m.key = v ∧ keyV v = true ∧ Den β H y m.val := by
  induction es generalizing ms n j with
  | nil => simp at hj
  | cons x es ih =>
    simp only [DenK] at h
    obtain ⟨key, y', m0, q, rfl, rfl, h3, h4, h5, h6, h7⟩ := h
    cases j with
    | zero => exact ⟨key, y', m0, rfl, rfl, h3, h4, h6⟩
    | succ j => simpa [lget] using ih h7 (j := j) (by simpa using hj)

/-- the map that an entry holds -/
theorem mp_at (hW : WOK C β H M w) {k : Nat} {e : Ent} {u : Value} (he : tget M k = some e) (hz : e.sz = 0) (hu : Den β H (.mp k) u) :
    ∃ d ms, β k = some (some d) ∧ (e.sz = 0 ∧ d.sz = 1 ∧ d.tot = 0) ∧ u = .map (some d.b) ∧ w.heap[d.b]? = some (.map ms ms.size) ∧ DenK β H e.es ms.toList 0 := by
  simp only [Den] at hu
  obtain ⟨d, h1, h2, rfl⟩ := hu
  rcases hW.ents k e (tget_some he) with ⟨g1, _⟩ | ⟨d', cs, T, vs, g1, g2, _⟩ | ⟨d', ms, g1, g2, g3, g4⟩
  · rw [h1] at g1; simp at g1
  · rw [h1] at g1; simp only [Option.some.injEq] at g1; subst g1; omega
  · rw [h1] at g1; simp only [Option.some.injEq] at g1; subst g1
    exact ⟨d, ms, h1, g2, rfl, g3, g4⟩
theorem two_den {β : Bnd} {H : Hp} {y : SV} {v : Value} (h : Den β H y v) (ok b : Bool) : Den β H (two ok y b) (if ok then .tuple #[v, .bool b] else v) := by
  unfold two
  cases ok with
  | false => simpa using h
  | true =>
    simp only [if_true, Den]
    refine ⟨[v, .bool b], rfl, ?_⟩
    simp only [DenT, Den]
    exact ⟨v, _, rfl, h, _, _, rfl, ⟨rfl, rfl⟩, rfl⟩

theorem run_findKey {kt : TypeId} {d : TypeDesc} {v : Value} {ms : List MapEntry} {r : Option (Nat × Value)} (hu : P.underlying kt = some d) (h : Instr.findNow d v ms 0 = some r) : (Instr.findKey kt v ms).run P w = .ok r w := by
  simp [Instr.findKey, underlying, hu, h]

theorem evLookup_ok (hW : WOK C β H M w) {t : TypeId} {x i : Option SV} {ok : Bool} {u v : Value} {M' : Tab} {pk : List Nat} {r : Option SV} (h : evLookup P M (tyOf P t) x i ok = .m c M' pk r) (hx : ∀ s, x = some s → Den β H s u) (hi : ∀ s, i = some s → Den β H s v) :
    pk = [] ∧ M' = M ∧ ∃ y z, r = some y ∧ (Instr.lookup t u v ok).run P w = .ok z w ∧ Den β H y z := by
  unfold evLookup at h
  split at h
  · rename_i kt et _ _ _ k v' hti
    obtain ⟨i0, d0, z0, ht⟩ := tyOf_spec hti
    obtain rfl := tk_mp ht.k
    have hv := hi _ rfl
    simp only [Den] at hv
    obtain ⟨rfl, -⟩ := hv
    unfold lkE at h
    split at h
    · rename_i te e hte he
      obtain ⟨ie, de, ze, hye⟩ := tyOf_spec hte
      split at h
      · rename_i hc
        obtain ⟨d, ms, g1, g2, rfl, g3, g4⟩ := mp_at hW he hc.1 (hx _ rfl)
        obtain ⟨k1, dk, k2, k3, k4⟩ := kfit_ok hc.2
        unfold lkR at h
        split at h
        · rename_i j y hr
          simp only [MRes.m.injEq] at h
          obtain ⟨-, rfl, rfl, rfl⟩ := h
          rcases kfind_ok k3 g4 hr with ⟨e1, -⟩ | ⟨j', y', m, e1, e2, e3, e4, e5, e6, e7, e8⟩
          · cases e1
          · simp only [Option.some.injEq, Prod.mk.injEq] at e1
            obtain ⟨rfl, rfl⟩ := e1
            refine ⟨rfl, rfl, _, _, rfl, ?_, two_den e8 ok true⟩
            simp only [Instr.lookup, Sem.run_bind, ht.runUnder, Result.andThen_ok, MapKept.run_getObj_map g3, Sem.run_pure, k4, run_findKey k2 e4]
        · rename_i hr
          simp only [MRes.m.injEq] at h
          obtain ⟨-, rfl, rfl, rfl⟩ := h
          rcases kfind_ok k3 g4 hr with ⟨-, e1⟩ | ⟨j', y', m, e1, _⟩
          · refine ⟨rfl, rfl, _, _, rfl, ?_, two_den (zsv_is hye β H) ok false⟩
            simp only [Instr.lookup, Sem.run_bind, ht.runUnder, Result.andThen_ok, MapKept.run_getObj_map g3, Sem.run_pure, k4, run_findKey k2 e1, hye.runZero]
          · cases e1
        · cases h
      · cases h
    · cases h
  · rename_i kt et _ _ _ v' hti
    obtain ⟨i0, d0, z0, ht⟩ := tyOf_spec hti
    obtain rfl := tk_mp ht.k
    have hv := hi _ rfl
    have hu := hx _ rfl
    simp only [Den] at hv hu
    obtain ⟨rfl, -⟩ := hv
    obtain ⟨rfl, -⟩ := hu
    unfold lkN at h
    split at h
    · rename_i te hte
      obtain ⟨ie, de, ze, hye⟩ := tyOf_spec hte
      split at h
      · rename_i hc
        obtain ⟨k1, dk, k2, k3, k4⟩ := kfit_ok hc
        simp only [MRes.m.injEq] at h
        obtain ⟨-, rfl, rfl, rfl⟩ := h
        refine ⟨rfl, rfl, _, _, rfl, ?_, two_den (zsv_is hye β H) ok false⟩
        simp only [Instr.lookup, Sem.run_bind, ht.runUnder, Result.andThen_ok, Sem.run_pure, k4, run_findKey k2 (show Instr.findNow dk _ [] 0 = some none from rfl), hye.runZero]
      · cases h
    · cases h
  · cases h

theorem wrM_of {b : Nat} {o : Obj} {ms : Array MapEntry} (hb : w.heap[b]? = some o) : WrM w b ms { w with heap := w.heap.setIfInBounds b (.map ms ms.size) } where
  os := rfl
  tape := rfl
  output := rfl
  size := by simp
  here := by
    have := heap_lt hb
    simp [this]
  there b' h := by simp [Array.getElem?_setIfInBounds_ne (Ne.symm h)]

theorem sameBits_refl {v : Value} (h : keyV v = true) (n : Nat) : Instr.sameBits n v v = true := by
  cases v <;> simp [keyV] at h <;> cases n <;> simp [Instr.sameBits, str_beq]
theorem run_stays {v : Value} (h : keyV v = true) : (Instr.keyThatStays v v).run P w = .ok v w := by
  simp [Instr.keyThatStays, sameBits_refl h]

theorem evMapUpd_ok (hW : WOK C β H M w) {t : TypeId} {m i x : Option SV} {u v z : Value} {M' : Tab} {pk : List Nat} {r : Option SV} (h : evMapUpd P M (tyOf P t) m i x = .m c M' pk r) (hm : ∀ s, m = some s → Den β H s u) (hi : ∀ s, i = some s → Den β H s v) (hx : ∀ s, x = some s → Den β H s z) :
    pk = [] ∧ r = none ∧ ∃ w', (Instr.mapUpdate t u v z).run P w = .ok () w' ∧ WOK C β H M' w' ∧ w'.heap.size = w.heap.size ∧ ∀ b, (∀ k d, m = some (.mp k) → β k = some (some d) → b ≠ d.b) → w'.heap[b]? = w.heap[b]? := by
  unfold evMapUpd at h
  split at h
  · rename_i kt et _ _ _ k v' y hti
    obtain ⟨i0, d0, z0, ht⟩ := tyOf_spec hti
    obtain rfl := tk_mp ht.k
    have hv := hi _ rfl
    have hz := hx _ rfl
    simp only [Den] at hv
    obtain ⟨rfl, -⟩ := hv
    unfold upE at h
    split at h
    · rename_i e he
      split at h
      · rename_i hc
        obtain ⟨d, ms, g1, g2, rfl, g3, g4⟩ := mp_at hW he hc.1 (hm _ rfl)
        obtain ⟨k1, dk, k2, k3, k4⟩ := kfit_ok hc.2.2
        unfold upR at h
        split at h
        · rename_i j y0 hr
          simp only [MRes.m.injEq] at h
          obtain ⟨-, rfl, rfl, rfl⟩ := h
          rcases kfind_ok k3 g4 hr with ⟨e1, -⟩ | ⟨j', y', m', e1, e2, e3, e4, e5, e6, e7, e8⟩
          · cases e1
          · simp only [Option.some.injEq, Prod.mk.injEq] at e1
            obtain ⟨rfl, rfl⟩ := e1
            rw [Nat.sub_zero] at e5
            have e5' : ms[j]? = some m' := by rw [← Array.getElem?_toList]; exact e5
            have hjl : j < ms.size := (Array.getElem?_eq_some_iff.1 e5').1
            have hmod : ms.modify j (fun e => { e with key := v, val := z }) = ms.setIfInBounds j { m' with key := v, val := z } := by
              apply Array.ext'
              simp only [Array.toList_modify, Array.toList_setIfInBounds]
              rw [modify_at _ e5]
            have hw := wrM_of (w := w) (b := d.b) (ms := ms.modify j (fun e => { e with key := v, val := z })) g3
            refine ⟨rfl, rfl, _, ?_, ?_, hw.size, fun b hb => hw.there b (hb k d rfl g1)⟩
            · simp only [Instr.mapUpdate, Sem.run_bind, ht.runUnder, Result.andThen_ok, MapKept.run_getObj_map g3, k4, run_findKey k2 e4, e5', Option.map_some, Option.getD_some, e6, run_stays k1]
              rw [MapKept.run_setObj_map _ g3]
              simp
            · rw [tset_eq]
              have := hW.writeMap (es := lset e.es j (.tup [.val v, y])) (tget_some he) hc.2.1 g1 g2 hw (by
                rw [hmod, Array.toList_setIfInBounds]
                exact g4.set e5 rfl k1 rfl hz)
              rw [hc.1] at this
              exact this
        · rename_i hr
          simp only [MRes.m.injEq] at h
          obtain ⟨-, rfl, rfl, rfl⟩ := h
          rcases kfind_ok k3 g4 hr with ⟨-, e1⟩ | ⟨j', y', m', e1, _⟩
          · have hw := wrM_of (w := w) (b := d.b) (ms := ms.push { key := v, val := z, born := ms.size }) g3
            refine ⟨rfl, rfl, _, ?_, ?_, hw.size, fun b hb => hw.there b (hb k d rfl g1)⟩
            · simp only [Instr.mapUpdate, Sem.run_bind, ht.runUnder, Result.andThen_ok, MapKept.run_getObj_map g3, k4, run_findKey k2 e1]
              rw [MapKept.run_setObj_map _ g3]
              simp
            · rw [tset_eq]
              have hl := g4.length
              simp only [Array.length_toList] at hl
              have := hW.writeMap (es := e.es ++ [.tup [.val v, y]]) (tget_some he) hc.2.1 g1 g2 hw (by
                rw [Array.toList_push]
                exact g4.append rfl k1 (by simp [hl]) hz)
              rw [hc.1] at this
              exact this
          · cases e1
        · cases h
      · cases h
    · cases h
  · cases h

theorem evMapEntry_ok (hW : WOK C β H M w) {t : TypeId} {m i : Option SV} {u v : Value} {M' : Tab} {pk : List Nat} {r : Option SV} (h : evMapEntry P M (tyOf P t) m i = .m c M' pk r) (hm : ∀ s, m = some s → Den β H s u) (hi : ∀ s, i = some s → Den β H s v) :
    pk = [] ∧ ∃ x z w', r = some x ∧ (Instr.mapEntry t u v).run P w = .ok z w' ∧ WOK C β H M' w' ∧ Den β H x z ∧ w'.heap.size = w.heap.size ∧ ∀ b, (∀ k d, m = some (.mp k) → β k = some (some d) → b ≠ d.b) → w'.heap[b]? = w.heap[b]? := by
  unfold evMapEntry at h
  split at h
  · rename_i kt et _ _ _ k v' hti
    obtain ⟨i0, d0, z0, ht⟩ := tyOf_spec hti
    obtain rfl := tk_mp ht.k
    have hv := hi _ rfl
    simp only [Den] at hv
    obtain ⟨rfl, -⟩ := hv
    unfold enE at h
    split at h
    · rename_i te e hte he
      obtain ⟨ie, de, ze, hye⟩ := tyOf_spec hte
      split at h
      · rename_i hc
        obtain ⟨d, ms, g1, g2, rfl, g3, g4⟩ := mp_at hW he hc.1 (hm _ rfl)
        obtain ⟨k1, dk, k2, k3, k4⟩ := kfit_ok hc.2.2
        have hpair : ∀ {y : SV} {z : Value} {q : Nat}, Den β H y z → Den β H (.tup [y, .val (.int .i64 (q : Nat))]) (.tuple #[z, goInt q]) := fun {y z q} hy => by
          simp only [Den]
          refine ⟨[z, goInt q], rfl, ?_⟩
          simp only [DenT, Den]
          exact ⟨z, _, rfl, hy, _, _, rfl, ⟨rfl, rfl⟩, rfl⟩
        unfold enR at h
        split at h
        · rename_i j y0 hr
          simp only [MRes.m.injEq] at h
          obtain ⟨-, rfl, rfl, rfl⟩ := h
          rcases kfind_ok k3 g4 hr with ⟨e1, -⟩ | ⟨j', y', m', e1, e2, e3, e4, e5, e6, e7, e8⟩
          · cases e1
          · simp only [Option.some.injEq, Prod.mk.injEq] at e1
            obtain ⟨rfl, rfl⟩ := e1
            rw [Nat.sub_zero] at e5 e7
            rw [Nat.zero_add] at e7
            have e5' : ms[j]? = some m' := by rw [← Array.getElem?_toList]; exact e5
            have hmod : ms.modify j (fun e => { e with key := v }) = ms := by
              apply Array.ext'
              simp only [Array.toList_modify]
              rw [modify_at _ e5]
              apply List.ext_getElem?
              intro q
              by_cases hq : j = q
              · subst hq
                have hjl : j < ms.toList.length := (List.getElem?_eq_some_iff.1 e5).1
                show (ms.toList.set j _)[j]? = _
                rw [List.getElem?_set_self hjl, e5, ← e6]
              · show (ms.toList.set j _)[q]? = _
                rw [List.getElem?_set_ne hq]
            have hw := wrM_of (w := w) (b := d.b) (ms := ms) g3
            refine ⟨rfl, _, _, _, rfl, ?_, ?_, hpair e8, hw.size, fun b hb => hw.there b (hb k d rfl g1)⟩
            · simp only [Instr.mapEntry, Sem.run_bind, ht.runUnder, Result.andThen_ok, MapKept.run_getObj_map g3, k4, run_findKey k2 e4, e5', Option.map_some, Option.getD_some, e6, run_stays k1, hmod]
              rw [MapKept.run_setObj_map _ g3]
              simp [e7]
            · have := hW.writeMap (es := e.es) (tget_some he) hc.2.1 g1 g2 hw g4
              have hM : M.set k (some ⟨e.sz, e.es, false⟩) = M := by
                have he' := tget_some he
                apply List.ext_getElem?
                intro q
                by_cases hq : k = q
                · subst hq
                  rw [List.getElem?_set_self (List.getElem?_eq_some_iff.1 he').1, he']
                  obtain ⟨a, b, f⟩ := e
                  have := hc.2.1
                  simp only at this
                  rw [this]
                · rw [List.getElem?_set_ne hq]
              rw [hM] at this
              exact this
        · rename_i hr
          simp only [MRes.m.injEq] at h
          obtain ⟨-, rfl, rfl, rfl⟩ := h
          rcases kfind_ok k3 g4 hr with ⟨-, e1⟩ | ⟨j', y', m', e1, _⟩
          · have hw := wrM_of (w := w) (b := d.b) (ms := ms.push { key := v, val := ze, born := ms.size }) g3
            have hl := g4.length
            simp only [Array.length_toList] at hl
            have hzd := zsv_is hye β H
            refine ⟨rfl, _, _, _, rfl, ?_, ?_, by rw [← hl]; exact hpair hzd, hw.size, fun b hb => hw.there b (hb k d rfl g1)⟩
            · simp only [Instr.mapEntry, Sem.run_bind, ht.runUnder, Result.andThen_ok, MapKept.run_getObj_map g3, k4, run_findKey k2 e1, hye.runZero]
              rw [MapKept.run_setObj_map _ g3]
              simp
            · rw [tset_eq]
              have := hW.writeMap (es := e.es ++ [.tup [.val v, te.zsv]]) (tget_some he) hc.2.1 g1 g2 hw (by
                rw [Array.toList_push]
                exact g4.append rfl k1 (by simp [hl]) hzd)
              rw [hc.1] at this
              exact this
          · cases e1
        · cases h
      · cases h
    · cases h
  · cases h

theorem evEntryStore_ok (hW : WOK C β H M w) {t : TypeId} {m s x : Option SV} {u v z : Value} {M' : Tab} {pk : List Nat} {r : Option SV} (h : evEntryStore M m s x = .m c M' pk r) (hc : c) (hm : ∀ s, m = some s → Den β H s u) (hi : ∀ q, s = some q → Den β H q v) (hx : ∀ s, x = some s → Den β H s z) :
    pk = [] ∧ r = none ∧ ∃ w', (Instr.entryStore t u v z).run P w = .ok () w' ∧ WOK C β H M' w' ∧ w'.heap.size = w.heap.size ∧ ∀ b, (∀ k d, m = some (.mp k) → β k = some (some d) → b ≠ d.b) → w'.heap[b]? = w.heap[b]? := by
  unfold evEntryStore at h
  split at h
  · rename_i k kk n y
    have hv := hi _ rfl
    have hz := hx _ rfl
    simp only [Den] at hv
    obtain ⟨rfl, -⟩ := hv
    unfold esE at h
    split at h
    · rename_i e he
      split at h
      · rename_i hcc
        simp only [MRes.m.injEq] at h
        obtain ⟨rfl, rfl, rfl, rfl⟩ := h
        obtain ⟨c1, c2⟩ := hc
        obtain ⟨d, ms, g1, g2, rfl, g3, g4⟩ := mp_at hW he hcc.1 (hm _ rfl)
        obtain ⟨q, rfl⟩ : ∃ q : Nat, n = q := ⟨n.toNat, by omega⟩
        simp only [Int.toNat_natCast] at *
        have hq : q < e.es.length := by omega
        obtain ⟨v0, y0, m0, a1, a2, a3, a4, a5⟩ := g4.at_ hq
        have hl := g4.length
        simp only [Array.length_toList] at hl
        have hfi : ms.findIdx? (fun e => (e.born : Int) == (q : Int)) = some q := by
          rw [Array.findIdx?_eq_some_iff_getElem]
          refine ⟨by omega, ?_, fun j hj => ?_⟩
          · have hb := g4.born a2
            have : ms[q]'(by omega) = m0 := by
              have : ms[q]? = some m0 := by rw [← Array.getElem?_toList]; exact a2
              rw [Array.getElem?_eq_getElem (by omega)] at this
              exact Option.some.inj this
            rw [this, hb]; simp
          · have hjs : j < ms.size := by omega
            have hb := g4.born (j := j) (m := ms[j]) (by simp [hjs])
            rw [hb]; simp; omega
        have hmod : ms.modify q (fun e => { e with val := z }) = ms.setIfInBounds q { m0 with val := z } := by
          apply Array.ext'
          simp only [Array.toList_modify, Array.toList_setIfInBounds]
          rw [modify_at _ a2]
        have hw := wrM_of (w := w) (b := d.b) (ms := ms.modify q (fun e => { e with val := z })) g3
        refine ⟨trivial, trivial, _, ?_, ?_, hw.size, fun b hb => hw.there b (hb k d rfl g1)⟩
        · simp only [Instr.entryStore, Sem.run_bind, MapKept.run_getObj_map g3, Result.andThen_ok, asInt, asIntOf, Sem.run_pure, hfi]
          rw [MapKept.run_setObj_map _ g3]
          simp
        · rw [tset_eq, a1]
          have := hW.writeMap (es := lset e.es q (.tup [.val v0, y])) (tget_some he) hcc.2 g1 g2 hw (by
            rw [hmod, Array.toList_setIfInBounds]
            exact g4.set a2 a3 a4 rfl hz)
          rw [hcc.1] at this
          exact this
      · cases h
    · cases h
  · cases h

theorem evMapLen_ok (hW : WOK C β H M w) {t : TypeId} {ts : Array TypeId} {ty : TypeId} {x : Option SV} {u : Value} {M' : Tab} {pk : List Nat} {r : Option SV} (h0 : ts[0]? = some t) (h : evMapLen M (tyOf P t) x = .m c M' pk r) (hx : ∀ s, x = some s → Den β H s u) :
    pk = [] ∧ M' = M ∧ ∃ y z, r = some y ∧ (Builtin.len_ ts ty #[u]).run P w = .ok z w ∧ Den β H y z := by
  unfold evMapLen at h
  split at h
  · rename_i kt et _ _ _ k hti
    obtain ⟨i0, d0, z0, ht⟩ := tyOf_spec hti
    obtain rfl := tk_mp ht.k
    unfold mlE at h
    split at h
    · rename_i e he
      split at h
      · rename_i hc
        simp only [MRes.m.injEq] at h
        obtain ⟨-, rfl, rfl, rfl⟩ := h
        obtain ⟨d, ms, g1, g2, rfl, g3, g4⟩ := mp_at hW he hc (hx _ rfl)
        have hl := g4.length
        simp only [Array.length_toList] at hl
        refine ⟨rfl, rfl, _, goInt ms.size, rfl, ?_, by rw [hl]; exact den_val rfl⟩
        simp [Builtin.len_, h0, ht.runUnder, MapKept.run_getObj_map g3]
      · cases h
    · cases h
  · rename_i kt et _ _ _ hti
    obtain ⟨i0, d0, z0, ht⟩ := tyOf_spec hti
    obtain rfl := tk_mp ht.k
    have hu := hx _ rfl
    simp only [Den] at hu
    obtain ⟨rfl, -⟩ := hu
    simp only [MRes.m.injEq] at h
    obtain ⟨-, rfl, rfl, rfl⟩ := h
    refine ⟨rfl, rfl, _, .int .i64 0, rfl, by simp [Builtin.len_, h0, ht.runUnder, goInt], ?_⟩
    simp only [Den]
    exact ⟨trivial, rfl⟩
  · cases h

theorem evMakeMap_ok (hW : WOK C β H M w) {t : TypeId} {o : Option Operand} {ρ : Operand → Value} {fr : List (Nat × SV)} (hρ : ∀ o s, ev fr o = some s → Den β H s (ρ o)) {M' : Tab} {pk : List Nat} {r : Option SV} (h : evMakeMap M (tyOf P t) (o.map (ev fr)) = .m c M' pk r) :
    pk = [] ∧ ∃ bd x, r = some x ∧ (Instr.makeMap t (o.map ρ)).run P w = .ok (.map (some w.heap.size)) (w.alloc (.map #[] 0)) ∧ WOK C (β.upd M.length (some bd)) H M' (w.alloc (.map #[] 0)) ∧ Den (β.upd M.length (some bd)) H x (.map (some w.heap.size)) := by
  have hden : Den (β.upd M.length (some ⟨w.heap.size, 0, 1⟩)) H (.mp M.length) (.map (some w.heap.size)) := by
    simp only [Den]
    exact ⟨_, by simp [Bnd.upd]; rfl, rfl, rfl⟩
  unfold evMakeMap at h
  split at h
  · rename_i kt et _ _ _ hti ho
    simp only [MRes.m.injEq] at h
    obtain ⟨-, rfl, rfl, rfl⟩ := h
    cases o with
    | some o => cases ho
    | none => exact ⟨rfl, _, _, rfl, by simp [Instr.makeMap, run_newObj, World.alloc_eq], hW.allocMap, hden⟩
  · rename_i kt et _ _ _ k n hti ho
    obtain ⟨i0, d0, z0, ht⟩ := tyOf_spec hti
    obtain rfl := tk_mp ht.k
    simp only [MRes.m.injEq] at h
    obtain ⟨-, rfl, rfl, rfl⟩ := h
    cases o with
    | none => cases ho
    | some o =>
      simp only [Option.map_some, Option.some.injEq] at ho
      have := hρ o _ ho
      simp only [Den] at this
      exact ⟨rfl, _, _, rfl, by simp [Instr.makeMap, ht.runUnder, asInt, asIntOf, run_newObj, World.alloc_eq, this.1], hW.allocMap, hden⟩
  · cases h

end
end Go.Sv

