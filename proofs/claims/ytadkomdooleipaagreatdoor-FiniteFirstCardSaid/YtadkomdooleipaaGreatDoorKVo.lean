/- What an operation of the model makes of symbolic values: the quiet ones (they leave the world alone). A text of the prover's own; it names no program. -/
import Derived.Test.YtadkomdooleipaaGreatDoorKVc
import Derived.Test.YtadkomdooleipaaGreatDoorKVq
import Derived.Laws.BytesArg
import Derived.WideLaws
namespace Go.Sv
open Go Go.RowKit

def tget : Tab → Nat → Option Ent
  | [], _ => none
  | x :: _, 0 => x
  | _ :: l, n + 1 => tget l n
def tset : Tab → Nat → Option Ent → Tab
  | [], _, _ => []
  | _ :: l, 0, y => y :: l
  | x :: l, n + 1, y => x :: tset l n y
theorem tget_some {M : Tab} {k : Nat} {e : Ent} (h : tget M k = some e) : M[k]? = some (some e) := by
  induction M generalizing k with
  | nil => simp [tget] at h
  | cons x l ih => cases k with
    | zero => simp only [tget] at h; simp [h]
    | succ k => simpa using ih h
theorem tset_eq (M : Tab) (k : Nat) (y : Option Ent) : tset M k y = M.set k y := by
  induction M generalizing k with
  | nil => rfl
  | cons x l ih => cases k <;> simp [tset, ih]

def fget : List (Nat × Nat × TypeId) → Nat → Option (Nat × Nat × TypeId)
  | [], _ => none
  | x :: _, 0 => some x
  | _ :: l, n + 1 => fget l n
theorem fget_eq (l : List (Nat × Nat × TypeId)) (n : Nat) : fget l n = l[n]? := by
  induction l generalizing n with
  | nil => rfl
  | cons x l ih => cases n <;> simp [fget, ih]

def sget (s : ByteArray) (i : Nat) : UInt8 := s.data.getD i 0

/-- a load -/
def evLoad (M : Tab) (ti : Option TI) (x : Option SV) : Res :=
  match ti, x with
  | some ti, some (.ptr k i j) =>
    match tget M k with
    | some e => .q (i < e.es.length ∧ (lget e.es i).isTup = false ∧ j + ti.size ≤ (lget e.es i).csz) (loadSV ti (lget e.es i) j)
    | none => .stuck
  | some ti, some (.rop x j) => .q (x.isTup = false ∧ j + ti.size ≤ x.csz) (loadSV ti x j)
  | _, _ => .stuck
def evFieldAddr (ti : Option TI) (x : Option SV) (f : Nat) : Res :=
  match ti, x with
  | some ⟨.st fs, _, _, _⟩, some (.ptr k i j) =>
    match fget fs f with
    | some (off, sz, _) => if sz = 0 then .stuck else .q True (.ptr k i (j + off))
    | none => .stuck
  | some ⟨.st fs, _, _, _⟩, some (.rop x j) =>
    match fget fs f with
    | some (off, sz, _) => if sz = 0 then .stuck else .q True (.rop x (j + off))
    | none => .stuck
  | _, _ => .stuck
def evField (P : Program) (ti : Option TI) (x : Option SV) (f : Nat) : Res :=
  match ti, x with
  | some ⟨.st fs, _, _, _⟩, some (.agg l) =>
    match fget fs f with
    | some (off, _, ft) =>
      match tyOf P ft with
      | some tf => if tf.k.isAgg = true then .q (off + tf.size ≤ l.length) (.agg ((l.drop off).take tf.size)) else .q (off < l.length) (lget l off)
      | none => .stuck
    | none => .stuck
  | _, _ => .stuck
def evIndexAddr (P : Program) (M : Tab) (ti : Option TI) (x : Option SV) (i : Option SV) : Res :=
  match ti, x, i with
  | some ⟨.sl el, _, _, _⟩, some (.ro es), some (.val (.int _ n)) =>
    match tyOf P el with
    | some te => .q (0 ≤ n ∧ n < es.length ∧ (lget es n.toNat).csz = te.size ∧ (lget es n.toNat).isTup = false) (.rop (lget es n.toNat) 0)
    | none => .stuck
  | some ⟨.sl el, _, _, _⟩, some (.view k i0 m), some (.val (.int _ n)) =>
    match tyOf P el, tget M k with
    | some te, some e => if e.sz = te.size then .q (0 ≤ n ∧ n < m) (.ptr k (i0 + n.toNat) 0) else .stuck
    | _, _ => .stuck
  | _, _, _ => .stuck
def evIndex (ti : Option TI) (x : Option SV) (i : Option SV) : Res :=
  match ti, x, i with
  | some ⟨.str, _, _, _⟩, some (.val (.string s)), some (.val (.int _ n)) => .q (0 ≤ n ∧ n < s.size) (.val (.int .u8 (sget s n.toNat).toNat))
  | _, _, _ => .stuck
def intOr (x : Option (Option SV)) (d : Int) : Option Int :=
  match x with
  | none => some d
  | some (some (.val (.int _ n))) => some n
  | _ => none
def evSlice (P : Program) (M : Tab) (ti : Option TI) (x : Option SV) (lo hi mx : Option (Option SV)) : Res :=
  match ti, x with
  | some ⟨.str, _, _, _⟩, some (.val (.string s)) =>
    match mx, intOr lo 0, intOr hi s.size with
    | none, some l, some h => .q (0 ≤ l ∧ l ≤ h ∧ h ≤ s.size) (.val (.string (s.extract l.toNat h.toNat)))
    | _, _, _ => .stuck
  | some ⟨.sl el, _, _, _⟩, some (.ro es) =>
    match intOr lo 0, intOr hi es.length, tyOf P el with
    | some l, some h, some te => .q (0 ≤ l ∧ l ≤ h ∧ h ≤ es.length ∧ (mx.isSome = true → intOr mx 0 = some h) ∧ (es ≠ [] → (lget es 0).csz = te.size ∧ (lget es 0).isTup = false)) (.ro ((es.take h.toNat).drop l.toNat))
    | _, _, _ => .stuck
  | some ⟨.sl el, _, _, _⟩, some (.view k i n) =>
    match intOr lo 0, intOr hi n, tyOf P el, tget M k with
    | some l, some h, some te, some e => if e.sz = te.size then .q (0 ≤ l ∧ l ≤ h ∧ h ≤ n ∧ (mx.isSome = true → intOr mx 0 = some h)) (.view k (i + l.toNat) (h.toNat - l.toNat)) else .stuck
    | _, _, _, _ => .stuck
  | _, _ => .stuck
def evConvI (ti tj : Option TI) (x : Option SV) : Res :=
  match ti, tj, x with
  | some _, some ⟨.int k, _, _, _⟩, some (.val (.int _ n)) => .q True (.val (.int k (k.wrap n)))
  | _, _, _ => .stuck
def svInt : SV → Int
  | .val (.int _ n) => n
  | _ => 0
def byteSV : SV → Bool
  | .val (.int .u8 _) => true
  | _ => false
/-- the string of these bytes -/
def strOf (es : List SV) : ByteArray := strOfNums (es.map svInt)
def evStr (M : Tab) (te : Option TI) (x : Option SV) : Res :=
  match te, x with
  | some ⟨.int .u8, _, _, _⟩, some (.ro es) => .q (es.all byteSV = true) (.val (.string (strOf es)))
  | some ⟨.int .u8, _, _, _⟩, some (.view k i n) =>
    match tget M k with
    | some e => .q (e.sz = 1 ∧ i + n ≤ e.es.length ∧ ((e.es.drop i).take n).all byteSV = true) (.val (.string (strOf ((e.es.drop i).take n))))
    | none => .stuck
  | some ⟨.int .u8, _, _, _⟩, some (.val (.slice none 0 0)) => .q True (.val (.string (strOf [])))
  | _, _ => .stuck
def evConv (P : Program) (M : Tab) (ti tj : Option TI) (x : Option SV) : Res :=
  match ti, tj with
  | some ⟨.sl el, _, _, _⟩, some ⟨.str, _, _, _⟩ => evStr M (tyOf P el) x
  | ti, tj => evConvI ti tj x
/-- an interface's value held against nil -/
def evNilEq (op : BinOp) (ti : Option TI) (x : Option SV) : Res :=
  match ti, op, x with
  | some ⟨.iface, _, _, _⟩, .eql, some (.val .nilIface) => .q True (.bool true)
  | some ⟨.iface, _, _, _⟩, .neq, some (.val .nilIface) => .q True (.bool false)
  | some ⟨.iface, _, _, _⟩, .eql, some (.ifc _ _) => .q True (.bool false)
  | some ⟨.iface, _, _, _⟩, .neq, some (.ifc _ _) => .q True (.bool true)
  | some ⟨.iface, _, _, _⟩, .eql, some (.sen _ _) => .q True (.bool false)
  | some ⟨.iface, _, _, _⟩, .neq, some (.sen _ _) => .q True (.bool true)
  | _, _, _ => .stuck
def isNil : Operand → Bool
  | .const .nilIface => true
  | _ => false
def evBinO (op : BinOp) (ti : Option TI) (x : Option SV) (oy : Operand) (y : Option SV) : Res :=
  if isNil oy = true then evNilEq op ti x else evBin op ti x y
/-- two structs with plain fields, or what evBinO makes of it -/
def evBinP (P : Program) (op : BinOp) (t : TypeId) (x : Option SV) (oy : Operand) (y : Option SV) : Res :=
  match x, y with
  | some (.agg a), some (.agg b) => evAggEq op (eqTys P t) a b
  | x, y => evBinO op (tyOf P t) x oy y
def evUn (op : UnOp) (x : Option SV) : Res :=
  match op, x with
  | .neg, some (.val (.int k n)) => .q True (.val (.int k (k.wrap (0 - n))))
  | .not, some (.val (.bool b)) => .q True (.bool (!b))
  | _, _ => .stuck
def evPick (c x y : Option SV) : Res :=
  match c with
  | some (.val (.bool true)) => match x with | some x => .q True x | none => .stuck
  | some (.val (.bool false)) => match y with | some y => .q True y | none => .stuck
  | _ => .stuck
def evNil (x : Option SV) : Res :=
  match x with
  | some (.ptr k i j) => .q True (.ptr k i j)
  | some (.rop x j) => .q True (.rop x j)
  | some (.ifc t x) => .q True (.ifc t x)
  | _ => .stuck
def evExtract (x : Option SV) (i : Nat) : Res :=
  match x with
  | some (.tup l) => .q (i < l.length) (lget l i)
  | _ => .stuck
def evLen (ti : Option TI) (x : Option SV) : Res :=
  match ti, x with
  | some ⟨.sl _, _, _, _⟩, some (.val (.slice none 0 0)) => .q True (.i64 0)
  | some ⟨.sl _, _, _, _⟩, some (.ro es) => .q True (.i64 es.length)
  | some ⟨.sl _, _, _, _⟩, some (.view _ _ n) => .q True (.i64 n)
  | some ⟨.str, _, _, _⟩, some (.val (.string s)) => .q True (.i64 s.size)
  | _, _ => .stuck
def evMinMax (mx : Bool) (x y : Option SV) : Res :=
  match x, y with
  | some (.val (.int k m)), some (.val (.int _ n)) => .q True (.val (.int k (if mx = true then (if n > m then n else m) else (if n < m then n else m))))
  | _, _ => .stuck
def evIface (ti : Option TI) (t : TypeId) (x : Option SV) : Res :=
  match ti, x with
  | some ⟨.iface, _, _, _⟩, _ => .stuck
  | some _, some x => .q True (.ifc t x)
  | _, _ => .stuck
/-- the parts of a struct's literal laid into the zero value's cells -/
def fillSV (fs : List (Nat × Nat × TypeId)) : List (Nat × Option SV) → List SV → Option (List SV)
  | [], acc => some acc
  | (i, some x) :: r, acc =>
    match fget fs i with
    | some (off, sz, _) => if x.csz = sz ∧ x.isTup = false ∧ off + sz ≤ acc.length then fillSV fs r (acc.take off ++ x.cells ++ acc.drop (off + sz)) else none
    | none => none
  | (_, none) :: _, _ => none
def evBuild (ti : Option TI) (parts : List (Nat × Option SV)) : Res :=
  match ti with
  | some ⟨.st fs, _, _, zero⟩ =>
    if fs.all (fun f => f.2.1 != 0) = true then
    match fillSV fs parts zero with
    | some l => .q True (.agg l)
    | none => .stuck
    else .stuck
  | _ => .stuck
/-- clear, of a slice of nothing -/
def evClear (ti : Option TI) (x : Option SV) : Res :=
  match ti, x with
  | some ⟨.sl _, _, _, _⟩, some (.val (.slice none 0 0)) => .q True (.tup [])
  | some ⟨.sl _, _, _, _⟩, some (.view _ _ n) => .q (n = 0) (.tup [])
  | _, _ => .stuck
def evBuiltin (P : Program) (b : Builtin) (ts : Array TypeId) (xs : List (Option SV)) : Res :=
  match b, xs with
  | .len, [x] => evLen ((ts[0]?).bind (tyOf P)) x
  | .clear, [x] => evClear ((ts[0]?).bind (tyOf P)) x
  | .max, [x, y] => evMinMax true x y
  | .min, [x, y] => evMinMax false x y
  | _, _ => .stuck

/-- a quiet operation -/
def evs (fr : List (Nat × SV)) : List Operand → Option (List SV)
  | [] => some []
  | o :: r => match ev fr o, evs fr r with
    | some x, some l => some (x :: l)
    | _, _ => none

/-- a function with what is bound to it -/
def fnvO (f : FuncId) (l r : Option (List SV)) : Res := match l, r with
  | some l, some r => .q True (.fnv f l r)
  | _, _ => .stuck

def evQ (P : Program) (M : Tab) (fr : List (Nat × SV)) (o : Op) : Res :=
  match o with
  | .move x | .assign x => match ev fr x with | some x => .q True x | none => .stuck
  | .pick c a b => evPick (ev fr c) (ev fr a) (ev fr b)
  | .binOp op t x y _ => evBinP P op t (ev fr x) y (ev fr y)
  | .unOp op _ x => evUn op (ev fr x)
  | .convert s d x => evConv P M (tyOf P s) (tyOf P d) (ev fr x)
  | .nilCheck x => evNil (ev fr x)
  | .extract x i => evExtract (ev fr x) i
  | .field t x f => evField P (tyOf P t) (ev fr x) f
  | .fieldAddr t x f => evFieldAddr (tyOf P t) (ev fr x) f
  | .indexAddr t x i => evIndexAddr P M (tyOf P t) (ev fr x) (ev fr i)
  | .index t x i => evIndex (tyOf P t) (ev fr x) (ev fr i)
  | .load t a => evLoad M (tyOf P t) (ev fr a)
  | .slice t x lo hi mx => if (mx.isSome && !hi.isSome) = true then .stuck else evSlice P M (tyOf P t) (ev fr x) (lo.map (ev fr)) (hi.map (ev fr)) (mx.map (ev fr))
  | .makeInterface t x => evIface (tyOf P t) t (ev fr x)
  | .build t parts => evBuild (tyOf P t) (parts.toList.map fun p => (p.1, ev fr p.2))
  | .call ⟨.builtin b, args, ts⟩ => evBuiltin P b ts (args.toList.map (ev fr))
  | .makeFunc (.func f) l r => fnvO f (evs fr l.toList) (evs fr r.toList)
  | _ => .stuck

theorem fOK_den {β : Bnd} {H : Hp} {n : Nat} {fr : List (Nat × SV)} {a : Act} (hF : FOK β H n fr a) (o : Operand) : ∀ s, ev fr o = some s → Den β H s (a.eval o) := fun _ h => ev_den hF h

theorem evs_den {β : Bnd} {H : Hp} {n : Nat} {fr : List (Nat × SV)} {a : Act} (hF : FOK β H n fr a) : ∀ (l : List Operand) (xs : List SV), evs fr l = some xs → DenT β H xs (l.map a.eval)
  | [], xs, h => by simp only [evs, Option.some.injEq] at h; subst h; simp [DenT]
  | o :: r, xs, h => by
    simp only [evs] at h
    split at h
    · rename_i x l hx hl
      simp only [Option.some.injEq] at h
      subst h
      simp only [List.map_cons, DenT]
      exact ⟨_, _, rfl, ev_den hF hx, evs_den hF r l hl⟩
    · cases h

section
variable {P : Program} {C : Ctx} {β : Bnd} {H : Hp} {M : Tab} {w : World} {c : Prop} {r : SV}

theorem evLoad_ok (hW : WOK C β H M w) {t : TypeId} {x : Option SV} {u : Value} (h : evLoad M (tyOf P t) x = .q c r) (hc : c) (hx : ∀ s, x = some s → Den β H s u) :
    ∃ z, (∀ w' : World, (∀ b o p, u = .pointer (some ⟨b, o, p⟩) → w'.heap[b]? = w.heap[b]?) → (Instr.loadAt t u).run P w' = .ok z w') ∧ Den β H r z := by
  unfold evLoad at h
  split at h
  · rename_i ti k i j hti
    have hu := hx _ rfl
    simp only [Den] at hu
    obtain ⟨d, hd, rfl⟩ := hu
    split at h
    · rename_i e he
      simp only [Res.q.injEq] at h
      obtain ⟨rfl, rfl⟩ := h
      obtain ⟨h1, h2, h3⟩ := hc
      rcases hW.ents k e (tget_some he) with ⟨h4, _⟩ | ⟨d', cs, T, vs, h4, h5, h6, h7, h8, h9, h10, -⟩ | ⟨d', ms, h4, h5, h6, h7⟩
      rotate_left 2
      · obtain ⟨l, hl⟩ := h7.tups i h1
        rw [hl] at h2; simp [SV.isTup] at h2
      · rw [hd] at h4; simp at h4
      · rw [hd] at h4; simp only [Option.some.injEq] at h4; subst h4
        obtain ⟨v, hv1, hv2, hv3⟩ := h8.get h1
        have hlen := h8.length
        obtain ⟨z, hz1, hz2⟩ := load_core (P := P) hti (b := d.b) (o := i * d.sz) (j := j) hv1 h2 (fun q hq => by
          rw [hv2] at hq
          rw [h5, h10 _ (by rw [hlen]; calc i * e.sz + q < i * e.sz + e.sz := by omega
              _ = (i + 1) * e.sz := by rw [Nat.add_mul, Nat.one_mul]
              _ ≤ e.es.length * e.sz := Nat.mul_le_mul_right _ h1)]
          exact hv3 q hq) h3
        exact ⟨z, fun w' hw' => by simp only [Instr.loadAt, Instr.sureAddr, Sem.run_bind, Sem.run_pure, Result.andThen_ok]; exact hz1 w' _ _ ((hw' _ _ _ rfl).trans h6), hz2⟩
    · cases h
  · rename_i ti x j hti
    have hu := hx _ rfl
    simp only [Den] at hu
    obtain ⟨b, o, cs, v, rfl, h2, h3, h4⟩ := hu
    simp only [Res.q.injEq] at h
    obtain ⟨rfl, rfl⟩ := h
    obtain ⟨T, z, hb⟩ := hW.inv b cs h2
    obtain ⟨z, hz1, hz2⟩ := load_core (P := P) hti (b := b) (o := o) (j := j) (Den.up h3 (β' := β) (fun _ _ h => by simp [noB] at h) (fun _ _ h => h)) hc.1 h4 hc.2
    exact ⟨z, fun w' hw' => by simp only [Instr.loadAt, Instr.sureAddr, Sem.run_bind, Sem.run_pure, Result.andThen_ok]; exact hz1 w' _ _ ((hw' _ _ _ rfl).trans hb), hz2⟩
  · cases h

/-- a look at what nobody writes any more -/
theorem evLoad_rop {P : Program} {β : Bnd} {H : Hp} {M : Tab} {c : Prop} {r : SV} {t : TypeId} {y : SV} {k : Nat} {u : Value} (h : evLoad M (tyOf P t) (some (.rop y k)) = .q c r) (hc : c) (hx : Den β H (.rop y k) u) :
    ∃ z, (∀ w' : World, (∀ b cs, H b = some cs → ∃ T z, w'.heap[b]? = some (.cells cs T z)) → (Instr.loadAt t u).run P w' = .ok z w') ∧ Den β H r z := by
  unfold evLoad at h
  split at h
  · rename_i hx'; cases hx'
  · rename_i ti x j hti he
    cases he
    simp only [Den] at hx
    obtain ⟨b, o, cs, v, rfl, h2, h3, h4⟩ := hx
    simp only [Res.q.injEq] at h
    obtain ⟨rfl, rfl⟩ := h
    obtain ⟨z, hz1, hz2⟩ := load_core (P := P) hti (b := b) (o := o) (j := k) (Den.up h3 (β' := β) (fun _ _ h => by simp [noB] at h) (fun _ _ h => h)) hc.1 h4 hc.2
    refine ⟨z, fun w' hw' => ?_, hz2⟩
    obtain ⟨T, z', hb⟩ := hw' b cs h2
    simp only [Instr.loadAt, Instr.sureAddr, Sem.run_bind, Sem.run_pure, Result.andThen_ok]
    exact hz1 w' _ _ hb
  · cases h

theorem tk_st {d : TypeDesc} {fs : List (Nat × Nat × TypeId)} (h : TK.st fs = tk P d) : ∃ a, d = .struct a ∧ fs = a.toList.map fun f => (f.offset, szP P f.type, f.type) := by
  cases d <;> simp [tk] at h
  exact ⟨_, rfl, h⟩
theorem tk_sl {d : TypeDesc} {e : TypeId} (h : TK.sl e = tk P d) : d = .slice e := by
  cases d <;> simp [tk] at h; rw [h]
theorem tk_str {d : TypeDesc} (h : TK.str = tk P d) : d = .string := by
  cases d <;> simp [tk] at h; rfl
theorem DenE_bytes {β : Bnd} {H : Hp} {s : Nat} : ∀ {es : List SV} {vs : List Value}, DenE β H s es vs → es.all byteSV = true → vs = (es.map svInt).map (Value.int .u8) ∧ (es ≠ [] → s = 1)
  | [], vs, h, _ => by simp only [DenE] at h; simp [h]
  | x :: es, vs, h, hb => by
    simp only [DenE] at h
    obtain ⟨v, r, rfl, h2, h3, h4⟩ := h
    simp only [List.all_cons, Bool.and_eq_true] at hb
    obtain ⟨ih, -⟩ := DenE_bytes h4 hb.2
    have hx := hb.1
    unfold byteSV at hx
    split at hx
    · rename_i n
      simp only [Den] at h3
      obtain ⟨rfl, -⟩ := h3
      simp only [Value.cells] at h2 ⊢
      refine ⟨?_, fun _ => by simpa using h2.symm⟩
      rw [ih]; simp [svInt]
    · cases hx
theorem cells_bytes {P : Program} {w : World} {src dst el : TypeId} {es : List SV} {b o c : Nat} {cs : Array Value} {T : TypeId} {z : Nat × Nat} (hs : P.underlying src = some (.slice el)) (he : P.underlying el = some (.int .u8)) (hd : P.underlying dst = some .string)
    (hb : w.heap[b]? = some (.cells cs T z)) (hq : ∀ i, i < es.length → cs[o + i]? = ((es.map svInt).map (Value.int .u8))[i]?) :
    (convert src dst (.slice (some ⟨b, o, none⟩) es.length c)).run P w = .ok (.string (strOf es)) w := by
  refine run_convert_bytes_arg w src el hs he b o es.length c (es.map svInt) (by simp) (fun i hi => ?_) dst hd
  rw [cell_of hb, hq i hi]
  simp [hi]
theorem evStr_ok (hW : WOK C β H M w) {src dst el : TypeId} {x : Option SV} {u : Value} (hs : P.underlying src = some (.slice el)) (hd : P.underlying dst = some .string) (h : evStr M (tyOf P el) x = .q c r) (hc : c) (hx : ∀ s, x = some s → Den β H s u) :
    ∃ z, (convert src dst u).run P w = .ok z w ∧ Den β H r z ∧ ((∀ k i n, x ≠ some (.view k i n)) → ∀ w' : World, (∀ b cs, H b = some cs → ∃ T z, w'.heap[b]? = some (.cells cs T z)) → (convert src dst u).run P w' = .ok z w') := by
  have hel : ∀ a b z, tyOf P el = some ⟨.int .u8, a, b, z⟩ → P.underlying el = some (.int .u8) := fun a b z hte => by
    obtain ⟨i1, d1, z1, ht1⟩ := tyOf_spec hte
    have hk := ht1.k
    have : d1 = .int .u8 := by cases d1 <;> simp [tk] at hk; rw [hk]
    rw [← this]; exact ht1.under
  unfold evStr at h
  split at h
  · rename_i es hte
    have he := hel _ _ _ hte
    have hu := hx _ rfl
    simp only [Res.q.injEq] at h
    obtain ⟨rfl, rfl⟩ := h
    simp only [Den] at hu
    rcases hu with ⟨rfl, a0, c0, rfl⟩ | ⟨b, o, cp, s, cs, vs, rfl, h2, h3, h4, h5⟩
    · have go : ∀ w' : World, (convert src dst (.slice a0 0 c0)).run P w' = .ok (.string ByteArray.empty) w' := fun w' => by
        rw [run_convert_bytes_string w' src dst el _ 0 c0 hs he hd]
        cases a0 <;> simp [Conv.bytesToString, loadCells, loadCellsFrom] <;> rfl
      exact ⟨_, go w, den_val rfl, fun _ w' _ => go w'⟩
    · obtain ⟨hvs, hs1⟩ := DenE_bytes h4 hc
      have hq : ∀ i, i < es.length → cs[o + i]? = ((es.map svInt).map (Value.int .u8))[i]? := fun i hi => by
        rw [← hvs]; exact h5 i (by rw [hvs]; simpa using hi)
      have go : ∀ w' : World, (∀ b cs, H b = some cs → ∃ T z, w'.heap[b]? = some (.cells cs T z)) → (convert src dst (.slice (some ⟨b, o, none⟩) es.length cp)).run P w' = .ok (.string (strOf es)) w' := fun w' hw' => by
        obtain ⟨T, z, hb⟩ := hw' b cs h3
        exact cells_bytes hs he hd hb hq
      exact ⟨_, go w hW.inv, den_val rfl, fun _ => go⟩
  · rename_i k i n hte
    have he := hel _ _ _ hte
    have hu := hx _ rfl
    split at h
    · rename_i e hte'
      simp only [Res.q.injEq] at h
      obtain ⟨rfl, rfl⟩ := h
      obtain ⟨c1, c2, c3⟩ := hc
      simp only [Den] at hu
      rcases hu with ⟨h1, rfl, rfl, rfl⟩ | ⟨d, cp, o, h1, h2, h3, h4, rfl⟩
      · exact ⟨_, run_convert_bytes_nil w src el hs he 0 0 dst hd, by rw [List.take_zero]; exact den_val rfl, fun hn => absurd rfl (hn _ _ _)⟩
      · rcases hW.ents k e (tget_some hte') with ⟨g1, _⟩ | ⟨d', cs, T, vs, g1, g2, g3, g4, g5, g6, g7, g8⟩ | ⟨d', ms, g1, g2, g3, g4⟩
        rotate_left 2
        · omega
        · rw [h1] at g1; simp at g1
        · rw [h1] at g1; simp only [Option.some.injEq] at g1; subst g1
          have hlen : ((e.es.drop i).take n).length = n := by simp; omega
          have hden := (g5.drop i).take n
          rw [c1, Nat.mul_one, Nat.mul_one] at hden
          obtain ⟨hvs, -⟩ := DenE_bytes hden c3
          have hvl := g5.length
          rw [c1, Nat.mul_one] at hvl
          have := cells_bytes (w := w) (c := cp) (o := o) hs he hd g3 (es := (e.es.drop i).take n) (fun j hj => by
            rw [hlen] at hj
            have ho := h4 (by omega)
            rw [← hvs, ho, g2, c1, Nat.mul_one, List.getElem?_take_of_lt hj, List.getElem?_drop]
            exact g7 _ (by omega))
          rw [hlen] at this
          exact ⟨_, this, den_val rfl, fun hn => absurd rfl (hn _ _ _)⟩
    · cases h
  · rename_i hte
    have he := hel _ _ _ hte
    have hu := hx _ rfl
    simp only [Den] at hu
    simp only [Res.q.injEq] at h
    obtain ⟨-, rfl⟩ := h
    rw [hu.1]
    exact ⟨_, run_convert_bytes_nil w src el hs he 0 0 dst hd, den_val rfl, fun _ w' _ => run_convert_bytes_nil w' src el hs he 0 0 dst hd⟩
  · cases h
theorem tk_int {d : TypeDesc} {k : IntKind} (h : TK.int k = tk P d) : d = .int k := by
  cases d <;> simp [tk] at h; rw [h]
theorem run_sizeOf_ne {t : TypeId} (h : szP P t ≠ 0) : (sizeOf t).run P w = .ok (szP P t) w := by
  unfold szP at h ⊢
  cases hi : P.info? t with
  | none => rw [hi] at h; simp at h
  | some i => simp [sizeOf, typeInfo, hi]

theorem evFieldAddr_ok {t : TypeId} {f : Nat} {x : Option SV} {u : Value} (h : evFieldAddr (tyOf P t) x f = .q c r) (_ : c) (hx : ∀ s, x = some s → Den β H s u) :
    ∃ z, (∀ w, (Instr.fieldAt t u f).run P w = .ok z w) ∧ Den β H r z := by
  unfold evFieldAddr at h
  have key : ∀ fs sz by' z off s ag (b o : Nat) (w : World), tyOf P t = some ⟨.st fs, sz, by', z⟩ → fget fs f = some (off, s, ag) → s ≠ 0 →
      (Instr.fieldAt t (.pointer (some ⟨b, o, none⟩)) f).run P w = .ok (.pointer (some ⟨b, o + off, none⟩)) w := fun fs sz by' z off s ag b o w hti hf hs => by
    obtain ⟨i, d, zv, ht⟩ := tyOf_spec hti
    obtain ⟨a, rfl, rfl⟩ := tk_st ht.k
    rw [fget_eq, List.getElem?_map] at hf
    cases ha : a.toList[f]? with
    | none => rw [ha] at hf; simp at hf
    | some fl =>
      rw [ha] at hf
      simp only [Option.map_some, Option.some.injEq, Prod.mk.injEq] at hf
      obtain ⟨rfl, rfl, -⟩ := hf
      have ha' : a[f]? = some fl := by rw [← Array.getElem?_toList]; exact ha
      simp only [Instr.fieldAt, Sem.run_bind, ht.runUnder, Result.andThen_ok, ha', Instr.sureAddr, Sem.run_pure, fieldPlace, run_sizeOf_ne hs, if_neg hs, Addr.add_eq]
  split at h
  · rename_i fs _ _ _ k i j hti
    have hu := hx _ rfl
    simp only [Den] at hu
    obtain ⟨d, hd, rfl⟩ := hu
    split at h
    · rename_i off sz ag hf
      split at h
      · cases h
      · rename_i hs
        simp only [Res.q.injEq] at h
        obtain ⟨-, rfl⟩ := h
        exact ⟨_, fun w => key _ _ _ _ _ _ _ _ _ w hti hf hs, by simp only [Den]; exact ⟨d, hd, by rw [Nat.add_assoc]⟩⟩
    · cases h
  · rename_i fs _ _ _ x j hti
    have hu := hx _ rfl
    simp only [Den] at hu
    obtain ⟨b, o, cs, v, rfl, h2, h3, h4⟩ := hu
    split at h
    · rename_i off sz ag hf
      split at h
      · cases h
      · rename_i hs
        simp only [Res.q.injEq] at h
        obtain ⟨-, rfl⟩ := h
        exact ⟨_, fun w => key _ _ _ _ _ _ _ _ _ w hti hf hs, by simp only [Den]; exact ⟨b, o, cs, v, by rw [Nat.add_assoc], h2, h3, h4⟩⟩
    · cases h
  · cases h

theorem evField_ok {t : TypeId} {f : Nat} {x : Option SV} {u : Value} (h : evField P (tyOf P t) x f = .q c r) (hc : c) (hx : ∀ s, x = some s → Den β H s u) :
    ∃ z, (∀ w, (Instr.field t u f).run P w = .ok z w) ∧ Den β H r z := by
  unfold evField at h
  split at h
  · rename_i fs sz' by' z' l hti
    have hu := hx _ rfl
    simp only [Den] at hu
    obtain ⟨vs, rfl, hvs⟩ := hu
    split at h
    · rename_i off sz ft hf
      obtain ⟨i, d, zv, ht⟩ := tyOf_spec hti
      obtain ⟨a, rfl, rfl⟩ := tk_st ht.k
      rw [fget_eq, List.getElem?_map] at hf
      cases ha : a.toList[f]? with
      | none => rw [ha] at hf; simp at hf
      | some fl =>
        rw [ha] at hf
        simp only [Option.map_some, Option.some.injEq, Prod.mk.injEq] at hf
        obtain ⟨rfl, rfl, rfl⟩ := hf
        have ha' : a[f]? = some fl := by rw [← Array.getElem?_toList]; exact ha
        split at h
        · rename_i tf htf
          obtain ⟨i2, d2, z2, ht2⟩ := tyOf_spec htf
          have hlen := hvs.length
          split at h
          · rename_i hag
            simp only [Res.q.injEq] at h
            obtain ⟨rfl, rfl⟩ := h
            refine ⟨_, fun w => by simp [Instr.field, ht.runUnder, ha', asAgg, part, ht2.runAgg, hag, ht2.runSize]; rfl, ?_⟩
            simp only [Den]
            refine ⟨(vs.drop fl.offset).take tf.size, ?_, (hvs.drop _).take _⟩
            congr 1
          · rename_i hag
            simp only [Res.q.injEq] at h
            obtain ⟨rfl, rfl⟩ := h
            obtain ⟨v, hv1, _, hv3⟩ := hvs.get (i := fl.offset) hc
            refine ⟨v, fun w => ?_, hv3⟩
            simp [Instr.field, ht.runUnder, ha', asAgg, part, ht2.runAgg, hag, hv1]
        · cases h
    · cases h
  · cases h

theorem run_asIntOf (k : IntKind) (n : Int) : (asIntOf (.int k n)).run P w = .ok (k, n) w := by simp [asIntOf]

theorem evIndexAddr_ok (hZ : ∀ k e d, M[k]? = some (some e) → β k = some (some d) → d.sz = e.sz ∨ (d.sz = 1 ∧ d.tot = 0)) {t : TypeId} {x i : Option SV} {u v : Value} (h : evIndexAddr P M (tyOf P t) x i = .q c r) (hc : c) (hx : ∀ s, x = some s → Den β H s u) (hi : ∀ s, i = some s → Den β H s v) :
    ∃ z, (∀ w, (Instr.indexAt t u v).run P w = .ok z w) ∧ Den β H r z := by
  unfold evIndexAddr at h
  split at h
  · rename_i el _ _ _ es k n hti
    have hv := hi _ rfl
    simp only [Den] at hv
    obtain ⟨rfl, -⟩ := hv
    have hu := hx _ rfl
    obtain ⟨ii, d, zv, ht⟩ := tyOf_spec hti
    obtain rfl := tk_sl ht.k
    split at h
    · rename_i te hte
      obtain ⟨i2, d2, z2, ht2⟩ := tyOf_spec hte
      simp only [Res.q.injEq] at h
      obtain ⟨rfl, rfl⟩ := h
      obtain ⟨h1, h2, h3, h4⟩ := hc
      have hlt : n.toNat < es.length := by omega
      simp only [Den] at hu
      rcases hu with ⟨he, -⟩ | ⟨b, o, c', s, cs, vs, rfl, g2, g3, g4, g5⟩
      · rw [he] at hlt; simp at hlt
      · obtain ⟨y, hy1, hy2, hy3⟩ := g4.get hlt
        have hs : s = te.size := by
          rw [← h3, ← hy2]
          exact (hy1.notTuple).resolve_left (fun ⟨l, e⟩ => by rw [e] at h4; simp [SV.isTup] at h4)
        refine ⟨_, fun w => by simp [Instr.indexAt, run_asIntOf, ht.runUnder, h1, h2, ht2.runSize, Addr.add_eq]; rfl, ?_⟩
        simp only [Den]
        refine ⟨b, o + n.toNat * te.size, cs, y, by simp, g3, hy1, fun q hq => ?_⟩
        rw [hy2] at hq
        have hl := g4.length
        rw [← hy3 q hq, ← hs, Nat.add_assoc]
        refine g5 _ ?_
        rw [hl]
        calc n.toNat * s + q < n.toNat * s + s := by omega
          _ = (n.toNat + 1) * s := by rw [Nat.add_mul, Nat.one_mul]
          _ ≤ es.length * s := Nat.mul_le_mul_right _ hlt
    · cases h
  · rename_i el _ _ _ k i0 m k' n hti
    have hv := hi _ rfl
    simp only [Den] at hv
    obtain ⟨rfl, -⟩ := hv
    have hu := hx _ rfl
    obtain ⟨ii, d, zv, ht⟩ := tyOf_spec hti
    obtain rfl := tk_sl ht.k
    split at h
    · rename_i te e hte he
      obtain ⟨i2, d2, z2, ht2⟩ := tyOf_spec hte
      split at h
      · rename_i hsz
        simp only [Res.q.injEq] at h
        obtain ⟨rfl, rfl⟩ := h
        obtain ⟨h1, h2⟩ := hc
        simp only [Den] at hu
        rcases hu with ⟨_, _, hm, _⟩ | ⟨d, c', o, g1, g2, g3, g4, rfl⟩
        · omega
        · have ho := g4 (by omega)
          have hds : d.sz = te.size := by
            rcases hZ k e d (tget_some he) g1 with h' | ⟨h', h''⟩
            · exact h'.trans hsz
            · rw [h', h''] at g3; omega
          refine ⟨_, fun w => by simp [Instr.indexAt, run_asIntOf, ht.runUnder, h1, h2, ht2.runSize, Addr.add_eq]; rfl, ?_⟩
          simp only [Den]
          exact ⟨d, g1, by rw [ho, hds, Nat.add_mul]; simp⟩
      · cases h
    · cases h
  · cases h

theorem evIndex_ok {t : TypeId} {x i : Option SV} {u v : Value} (h : evIndex (tyOf P t) x i = .q c r) (hc : c) (hx : ∀ s, x = some s → Den β H s u) (hi : ∀ s, i = some s → Den β H s v) :
    ∃ z, (∀ w, (Instr.index t u v).run P w = .ok z w) ∧ Den β H r z := by
  unfold evIndex at h
  split at h
  · rename_i s k n hti
    have hv := hi _ rfl
    simp only [Den] at hv
    obtain ⟨rfl, -⟩ := hv
    have hu := hx _ rfl
    simp only [Den] at hu
    obtain ⟨rfl, -⟩ := hu
    obtain ⟨ii, d, zv, ht⟩ := tyOf_spec hti
    obtain rfl := tk_str ht.k
    simp only [Res.q.injEq] at h
    obtain ⟨rfl, rfl⟩ := h
    obtain ⟨h1, h2⟩ := hc
    have hlt : n.toNat < s.size := by omega
    have hg : s[n.toNat]? = some (sget s n.toNat) := by
      rw [getElem?_pos s n.toNat hlt]
      congr 1
      have hlt' : n.toNat < s.data.size := hlt
      simp only [sget, Array.getD_eq_getD_getElem?, Array.getElem?_eq_getElem hlt', Option.getD_some]; rfl
    exact ⟨_, fun w => by simp [Instr.index, run_asIntOf, ht.runUnder, h1, hg], den_val rfl⟩
  · cases h

theorem intOr_some {ρ : Operand → Value} {fr : List (Nat × SV)} (hρ : ∀ o s, ev fr o = some s → Den β H s (ρ o)) {x : Option Operand} {d n : Int} (h : intOr (x.map (ev fr)) d = some n) :
    (x = none ∧ n = d) ∨ ∃ o k, x = some o ∧ ρ o = .int k n := by
  cases x with
  | none => simp only [Option.map_none, intOr, Option.some.injEq] at h; exact .inl ⟨rfl, h.symm⟩
  | some o =>
    right
    simp only [Option.map_some] at h
    unfold intOr at h
    split at h
    · rename_i he; cases he
    · rename_i k m he
      simp only [Option.some.injEq] at he h
      subst h
      have := hρ o _ he
      simp only [Den] at this
      exact ⟨o, k, rfl, this.1⟩
    · cases h

theorem run_sliceBound {v : Value} {k : IntKind} {n : Int} {y : Nat} {code : BoundsCode} (hv : v = .int k n) (h0 : 0 ≤ n) (h1 : n ≤ y) : (Instr.sliceBound v y code).run P w = .ok n.toNat w := by
  subst hv
  simp [Instr.sliceBound, run_asIntOf, h0, h1]

theorem sliceBounds_ok {ρ : Operand → Value} {fr : List (Nat × SV)} (hρ : ∀ o s, ev fr o = some s → Den β H s (ρ o)) {isSl : Bool} {lo hi mx : Option Operand} {len cap : Nat} {l h : Int}
    (hl : intOr (lo.map (ev fr)) 0 = some l) (hh : intOr (hi.map (ev fr)) len = some h) (h0 : 0 ≤ l) (h1 : l ≤ h) (h2 : h ≤ len) (h3 : len ≤ cap)
    (hm : mx.isSome = true → intOr (mx.map (ev fr)) 0 = some h ∧ hi.isSome = true) :
    (Instr.sliceBounds isSl len cap (lo.map ρ) (hi.map ρ) (mx.map ρ)).run P w = .ok (l.toNat, h.toNat, if mx.isSome = true then h.toNat else cap) w := by
  have eb : ∀ (o : Operand) (k : IntKind) (n : Int), ρ o = .int k n → 0 ≤ n → ∀ (y : Nat) (code : BoundsCode), n ≤ y → (Instr.sliceBound (ρ o) y code).run P w = .ok n.toNat w :=
    fun o k n ho hn y code hy => run_sliceBound ho hn hy
  cases mx with
  | none =>
    rcases intOr_some hρ hh with ⟨rfl, rfl⟩ | ⟨o, k, rfl, ho⟩ <;> rcases intOr_some hρ hl with ⟨rfl, rfl⟩ | ⟨o', k', rfl, ho'⟩
    · simp [Instr.sliceBounds]
    · have e2 := eb o' k' l ho' h0 len .sliceB (by omega)
      simp [Instr.sliceBounds, e2]
    · have e1 := eb o k h ho (by omega) cap (if isSl then .sliceAcap else .sliceAlen) (by omega)
      simp only [Instr.sliceBounds, Option.map_none, Option.map_some, Sem.run_bind, Sem.run_pure, Result.andThen_ok, e1]
      simp
    · have e1 := eb o k h ho (by omega) cap (if isSl then .sliceAcap else .sliceAlen) (by omega)
      have e2 := eb o' k' l ho' h0 h.toNat .sliceB (by omega)
      simp only [Instr.sliceBounds, Option.map_none, Option.map_some, Sem.run_bind, Sem.run_pure, Result.andThen_ok, e1]
      simp [e2]
  | some om =>
    obtain ⟨hm1, hm2⟩ := hm rfl
    rcases intOr_some hρ hm1 with ⟨e, _⟩ | ⟨om', km, e, hom⟩
    · cases e
    · simp only [Option.some.injEq] at e
      subst e
      have e0 := eb om km h hom (by omega) cap (if isSl then .slice3Acap else .slice3Alen) (by omega)
      rcases intOr_some hρ hh with ⟨rfl, rfl⟩ | ⟨o, k, rfl, ho⟩
      · simp at hm2
      · have e1 := eb o k h ho (by omega) h.toNat .slice3B (by omega)
        rcases intOr_some hρ hl with ⟨rfl, rfl⟩ | ⟨o', k', rfl, ho'⟩
        · simp only [Instr.sliceBounds, Option.map_none, Option.map_some, Sem.run_bind, Sem.run_pure, Result.andThen_ok, e0, e1]
          simp
        · have e2 := eb o' k' l ho' h0 h.toNat .slice3C (by omega)
          simp only [Instr.sliceBounds, Option.map_some, Sem.run_bind, Sem.run_pure, Result.andThen_ok, e0, e1]
          simp [e2]

theorem evSlice_ok (hZ : ∀ k e d, M[k]? = some (some e) → β k = some (some d) → d.sz = e.sz ∨ (d.sz = 1 ∧ d.tot = 0)) {ρ : Operand → Value} {fr : List (Nat × SV)} (hρ : ∀ o s, ev fr o = some s → Den β H s (ρ o)) {t : TypeId} {x : Option SV} {lo hi mx : Option Operand} {u : Value}
    (h : evSlice P M (tyOf P t) x (lo.map (ev fr)) (hi.map (ev fr)) (mx.map (ev fr)) = .q c r) (hc : c) (hx : ∀ s, x = some s → Den β H s u) (hmh : mx.isSome = true → hi.isSome = true) :
    ∃ z, (∀ w, (Instr.sliceAt t u (lo.map ρ) (hi.map ρ) (mx.map ρ)).run P w = .ok z w) ∧ Den β H r z := by
  unfold evSlice at h
  split at h
  · rename_i s hti
    have hu := hx _ rfl
    simp only [Den] at hu
    obtain ⟨rfl, -⟩ := hu
    obtain ⟨ii, d, zv, ht⟩ := tyOf_spec hti
    obtain rfl := tk_str ht.k
    split at h
    · rename_i l hh hmx hl hhi
      have hmx' : mx = none := by cases mx <;> simp at hmx; rfl
      subst hmx'
      simp only [Res.q.injEq] at h
      obtain ⟨rfl, rfl⟩ := h
      obtain ⟨h0, h1, h2⟩ := hc
      have hsb := fun (w : World) => sliceBounds_ok (P := P) (w := w) hρ (isSl := false) (mx := none) (cap := s.size) hl hhi h0 h1 h2 (Nat.le_refl _) (by simp)
      simp only [Option.map_none] at hsb
      exact ⟨_, fun w => by simp [Instr.sliceAt, Instr.slice, ht.runUnder, hsb], den_val rfl⟩
    · cases h
  · rename_i el _ _ _ es hti
    have hu := hx _ rfl
    obtain ⟨ii, d, zv, ht⟩ := tyOf_spec hti
    obtain rfl := tk_sl ht.k
    split at h
    · rename_i l hh te hl hhi hte
      obtain ⟨i2, d2, z2, ht2⟩ := tyOf_spec hte
      simp only [Res.q.injEq] at h
      obtain ⟨rfl, rfl⟩ := h
      obtain ⟨h0, h1, h2, h3, h4⟩ := hc
      simp only [Option.isSome_map] at h3
      simp only [Den] at hu
      rcases hu with ⟨rfl, a0, c', rfl⟩ | ⟨b, o, c', s, cs, vs, rfl, g2, g3, g4, g5⟩
      · have hsb := fun (w : World) => sliceBounds_ok (P := P) (w := w) hρ (isSl := true) (mx := mx) (len := 0) (cap := c') hl hhi h0 h1 (by simpa using h2) (Nat.zero_le _) (fun hm => ⟨h3 hm, hmh hm⟩)
        simp at h2
        have e1 : hh.toNat = 0 := by omega
        have e2 : l.toNat = 0 := by omega
        cases a0 with
        | none =>
          refine ⟨_, fun w => by simp [Instr.sliceAt, Instr.slice, ht.runUnder, hsb, ht2.runSize]; rfl, ?_⟩
          simp only [Den]
          left
          simp [e1, e2]
        | some a0 =>
          refine ⟨_, fun w => by simp [Instr.sliceAt, Instr.slice, ht.runUnder, hsb, ht2.runSize]; rfl, ?_⟩
          simp only [Den]
          left
          simp [e1, e2]
      · have hsb := fun (w : World) => sliceBounds_ok (P := P) (w := w) hρ (isSl := true) (mx := mx) (len := es.length) (cap := c') hl hhi h0 h1 h2 g2 (fun hm => ⟨h3 hm, hmh hm⟩)
        refine ⟨_, fun w => by simp [Instr.sliceAt, Instr.slice, ht.runUnder, hsb, ht2.runSize]; rfl, ?_⟩
        simp only [Den]
        right
        have hlen : ((es.take hh.toNat).drop l.toNat).length = hh.toNat - l.toNat := by simp; omega
        by_cases hz : hh.toNat - l.toNat = 0
        · have hnil : (es.take hh.toNat).drop l.toNat = [] := List.length_eq_zero_iff.1 (by rw [hlen, hz])
          rw [hnil]
          generalize (if mx.isSome = true then hh.toNat else c') = cc
          by_cases hcap : cc = l.toNat
          · exact ⟨b, o, cc - l.toNat, s, cs, [], by simp [hz, hcap], by simp, g3, by simp [DenE], by simp⟩
          · exact ⟨b, o + l.toNat * te.size, cc - l.toNat, s, cs, [], by simp [hz, hcap, Addr.add_eq], by simp, g3, by simp [DenE], by simp⟩
        · have hne : es ≠ [] := by intro e; subst e; simp at h2; omega
          obtain ⟨g6, g7⟩ := h4 hne
          have hs : s = te.size := by
            obtain ⟨y, hy1, hy2, -⟩ := g4.get (i := 0) (List.length_pos_iff.2 hne)
            rw [← g6, ← hy2]
            exact (hy1.notTuple).resolve_left (fun ⟨l, e⟩ => by rw [e] at g7; simp [SV.isTup] at g7)
          have hcap : (if mx.isSome = true then hh.toNat else c') ≠ l.toNat := by split <;> omega
          rw [if_neg hcap]
          refine ⟨b, o + l.toNat * te.size, (if mx.isSome = true then hh.toNat else c') - l.toNat, s, cs, (vs.take (hh.toNat * s)).drop (l.toNat * s), by simp [hlen, Addr.add_eq], by rw [hlen]; split <;> omega, g3, (g4.take _).drop _, fun i hi => ?_⟩
          simp only [List.length_drop, List.length_take] at hi
          rw [List.getElem?_drop, List.getElem?_take_of_lt (by omega), ← hs, Nat.add_assoc]
          exact g5 _ (by omega)
    · cases h
  · rename_i el _ _ _ k i n hti
    have hu := hx _ rfl
    obtain ⟨ii, d, zv, ht⟩ := tyOf_spec hti
    obtain rfl := tk_sl ht.k
    split at h
    · rename_i l hh te e hl hhi hte he
      obtain ⟨i2, d2, z2, ht2⟩ := tyOf_spec hte
      split at h
      · rename_i hsz
        simp only [Res.q.injEq] at h
        obtain ⟨rfl, rfl⟩ := h
        obtain ⟨h0, h1, h2, h3⟩ := hc
        simp only [Option.isSome_map] at h3
        simp only [Den] at hu
        rcases hu with ⟨g1, rfl, rfl, rfl⟩ | ⟨d, c', o, g1, g2, g3, g4, rfl⟩
        · have hsb := fun (w : World) => sliceBounds_ok (P := P) (w := w) hρ (isSl := true) (mx := mx) (len := 0) (cap := 0) hl hhi h0 h1 (by simpa using h2) (Nat.le_refl _) (fun hm => ⟨h3 hm, hmh hm⟩)
          refine ⟨_, fun w => by simp [Instr.sliceAt, Instr.slice, ht.runUnder, hsb, ht2.runSize]; rfl, ?_⟩
          simp only [Den]
          left
          simp at h2
          have e1 : hh.toNat = 0 := by omega
          have e2 : l.toNat = 0 := by omega
          exact ⟨g1, by simp [e2], by simp [e1], by simp [e1, e2]⟩
        · have hsb := fun (w : World) => sliceBounds_ok (P := P) (w := w) hρ (isSl := true) (mx := mx) (len := n) (cap := c') hl hhi h0 h1 h2 g2 (fun hm => ⟨h3 hm, hmh hm⟩)
          refine ⟨_, fun w => by simp [Instr.sliceAt, Instr.slice, ht.runUnder, hsb, ht2.runSize]; rfl, ?_⟩
          have hds : d.sz = te.size ∨ c' = 0 := by
            rcases hZ k e d (tget_some he) g1 with h' | ⟨h', h''⟩
            · exact .inl (h'.trans hsz)
            · rw [h', h''] at g3; exact .inr (by omega)
          simp only [Den]
          right
          have hcap : (if mx.isSome = true then hh.toNat else c') ≤ c' := by split <;> omega
          have hmul : (i + l.toNat + ((if mx.isSome = true then hh.toNat else c') - l.toNat)) * d.sz ≤ d.tot :=
            Nat.le_trans (Nat.mul_le_mul_right _ (by split <;> omega)) g3
          have hge : hh.toNat ≤ (if mx.isSome = true then hh.toNat else c') := by split <;> omega
          generalize (if mx.isSome = true then hh.toNat else c') = cc at hcap hmul hge ⊢
          by_cases hz : cc = l.toNat
          · exact ⟨d, cc - l.toNat, o, g1, by omega, hmul, fun hne => absurd (by omega) hne, by simp [hz]⟩
          · refine ⟨d, cc - l.toNat, o + l.toNat * te.size, g1, by omega, hmul, fun hne => ?_, by simp [hz, Addr.add_eq]⟩
            rcases hds with hds | hds
            · rw [g4 (by omega), hds, Nat.add_mul]
            · exact absurd (by omega) hz
      · cases h
    · cases h
  · cases h

theorem fill_foldl (v : Value) (off : Nat) : ∀ (l : List Value) (i : Nat) (cs : Array Value), (∀ q, l[q]? = v.cells[i + q]?) → off + i + l.length ≤ cs.size →
    ∃ r, (l.zipIdx i).foldl (fun cs (p : Value × Nat) => cs.setIfInBounds (off + p.2) p.1) cs = r ∧ r.size = cs.size ∧
      ∀ q, r[q]? = if off + i ≤ q ∧ q < off + i + l.length then l[q - (off + i)]? else cs[q]?
  | [], i, cs, _, _ => ⟨cs, rfl, rfl, fun q => by rw [if_neg (by simp)]⟩
  | x :: l, i, cs, hl, hs => by
    simp only [List.length_cons] at hs
    obtain ⟨r, h1, h2, h3⟩ := fill_foldl v off l (i + 1) (cs.setIfInBounds (off + i) x) (fun q => by have := hl (q + 1); simp at this; rw [this]; congr 1; omega) (by simp; omega)
    refine ⟨r, by simp only [List.zipIdx_cons, List.foldl_cons]; exact h1, by simpa using h2, fun q => ?_⟩
    rw [h3]
    simp only [List.length_cons]
    by_cases hq : q = off + i
    · subst hq
      rw [if_neg (by omega), if_pos (by omega)]
      simp [Array.getElem?_setIfInBounds_self_of_lt (show off + i < cs.size by omega)]
    · rw [Array.getElem?_setIfInBounds_ne (Ne.symm hq)]
      by_cases hq' : off + (i + 1) ≤ q ∧ q < off + (i + 1) + l.length
      · rw [if_pos hq', if_pos (by omega), show q - (off + i) = (q - (off + (i + 1))) + 1 from by omega]; simp
      · rw [if_neg hq', if_neg (by omega)]

theorem fill_one (v : Value) (off : Nat) (cs : Array Value) (hs : off + v.cells.size ≤ cs.size) :
    (v.cells.zipIdx.foldl (fun cs (p : Value × Nat) => cs.setIfInBounds (off + p.2) p.1) cs).toList = cs.toList.take off ++ v.cells.toList ++ cs.toList.drop (off + v.cells.size) := by
  obtain ⟨r, h1, h2, h3⟩ := fill_foldl v off v.cells.toList 0 cs (fun q => by simp) (by simpa using hs)
  have e : v.cells.zipIdx.foldl (fun cs (p : Value × Nat) => cs.setIfInBounds (off + p.2) p.1) cs = r := by
    rw [← h1, ← Array.foldl_toList]
    simp [Array.toList_zipIdx]
  rw [e]
  apply List.ext_getElem?
  intro q
  rw [Array.getElem?_toList, h3]
  simp only [Nat.add_zero, Array.length_toList]
  by_cases hq : q < off
  · rw [if_neg (by omega), List.append_assoc, List.getElem?_append_left (by simp; omega), List.getElem?_take_of_lt hq]; simp
  · rw [List.append_assoc, List.getElem?_append_right (by simp; omega)]
    have hlen : (cs.toList.take off).length = off := by simp; omega
    rw [hlen]
    by_cases hq2 : q < off + v.cells.size
    · rw [if_pos (by omega), List.getElem?_append_left (by simp; omega)]
    · rw [if_neg (by omega), List.getElem?_append_right (by simp; omega)]
      simp only [Array.length_toList, List.getElem?_drop]
      rw [show off + v.cells.size + (q - off - v.cells.size) = q from by omega]; simp

theorem fillSV_ok {ρ : Operand → Value} {fr : List (Nat × SV)} (hρ : ∀ o s, ev fr o = some s → Den β H s (ρ o)) {fs : List (Nat × Nat × TypeId)} {place : Nat → Option (Nat × Nat)}
    (hp : ∀ i off sz ft, fget fs i = some (off, sz, ft) → place i = some (off, sz)) :
    ∀ (parts : List (Nat × Operand)) (acc : List SV) (cs : Array Value) (l : List SV), fillSV fs (parts.map fun p => (p.1, ev fr p.2)) acc = some l → DenL β H acc cs.toList →
      ∃ cs', Instr.fill place cs (parts.map fun p => (p.1, ρ p.2)) = some cs' ∧ DenL β H l cs'.toList
  | [], acc, cs, l, h, hd => by
    simp only [List.map_nil, fillSV, Option.some.injEq] at h
    subst h
    exact ⟨cs, by simp [Instr.fill], hd⟩
  | (i, o) :: parts, acc, cs, l, h, hd => by
    simp only [List.map_cons] at h ⊢
    cases hx : ev fr o with
    | none => rw [hx] at h; simp [fillSV] at h
    | some x =>
      rw [hx] at h
      simp only [fillSV] at h
      split at h
      · rename_i off sz ft hf
        split at h
        · rename_i hc
          obtain ⟨h1, h2, h3⟩ := hc
          have hdx := hρ o x hx
          have hnt : ∀ l, x ≠ .tup l := fun l e => by subst e; simp [SV.isTup] at h2
          have hsz : (ρ o).cells.size = x.csz := hdx.notTuple.resolve_left fun ⟨l, e⟩ => hnt l e
          have hlen := hd.length
          have hcs : off + (ρ o).cells.size ≤ cs.size := by rw [hsz, h1]; simp at hlen; omega
          have hfo := fill_one (ρ o) off cs hcs
          obtain ⟨cs', hc1, hc2⟩ := fillSV_ok hρ hp parts _ ((ρ o).cells.zipIdx.foldl (fun cs (p : Value × Nat) => cs.setIfInBounds (off + p.2) p.1) cs) l h (by
            rw [hfo, ← h1, ← hsz]
            exact ((hd.take off).append (hdx.cellsL hnt)).append (hd.drop _))
          refine ⟨cs', ?_, hc2⟩
          simp only [Instr.fill, hp i off sz ft hf]
          rw [if_neg (by simp [hsz, h1]; omega)]
          exact hc1
        · cases h
      · cases h

theorem evBuild_ok {ρ : Operand → Value} {fr : List (Nat × SV)} (hρ : ∀ o s, ev fr o = some s → Den β H s (ρ o)) {t : TypeId} {parts : Array (Nat × Operand)}
    (h : evBuild (tyOf P t) (parts.toList.map fun p => (p.1, ev fr p.2)) = .q c r) :
    ∃ z, (∀ w, (Instr.build t (parts.map fun (i, x) => (i, ρ x))).run P w = .ok z w) ∧ Den β H r z := by
  unfold evBuild at h
  split at h
  · rename_i fs _ _ zero hti
    split at h
    · rename_i hall
      split at h
      · rename_i l hl
        simp only [Res.q.injEq] at h
        obtain ⟨-, rfl⟩ := h
        obtain ⟨ii, d, zv, ht⟩ := tyOf_spec hti
        obtain ⟨a, rfl, rfl⟩ := tk_st ht.k
        have hz : DenL β H zero zv.cells.toList := by
          have := ht.zero; simp only at this; rw [this]; exact DenL_map _ ht.cells
        have hpl : ∀ (w : World) (l : List Field), (∀ f ∈ l, szP P f.type ≠ 0) → (l.mapM fun f => Prod.mk f.offset <$> sizeOf f.type : Sem (List (Nat × Nat))).run P w = .ok (l.map fun f => (f.offset, szP P f.type)) w := by
          intro w l
          induction l with
          | nil => intro _; simp
          | cons f l ih =>
            intro hall
            have hs := run_sizeOf_ne (P := P) (w := w) (hall f (by simp))
            have := ih fun g hg => hall g (by simp [hg])
            simp [hs, this]
        have hpa := fun (w : World) => hpl w a.toList (fun f hf => by
          simp only [List.all_eq_true, List.mem_map, bne_iff_ne, ne_eq] at hall
          exact hall _ ⟨f, hf, rfl⟩)
        obtain ⟨cs', hc1, hc2⟩ := fillSV_ok hρ (place := fun i => (a.map fun f => (f.offset, szP P f.type))[i]?) (fun i off sz ft hf => by
          rw [fget_eq, List.getElem?_map] at hf
          rw [← Array.getElem?_toList, Array.toList_map, List.getElem?_map]
          cases hb : a.toList[i]? with
          | none => rw [hb] at hf; simp at hf
          | some f =>
            rw [hb] at hf
            simp only [Option.map_some, Option.some.injEq, Prod.mk.injEq] at hf ⊢
            obtain ⟨rfl, rfl, -⟩ := hf
            exact ⟨rfl, rfl⟩) parts.toList zero zv.cells l hl hz
        refine ⟨.agg cs', fun w => ?_, by simp only [Den]; exact ⟨cs'.toList, by simp, hc2⟩⟩
        have hmp : (parts.map fun (i, x) => (i, ρ x)).toList = parts.toList.map fun p => (p.1, ρ p.2) := by simp
        have hpa' : ∀ w, (a.mapM fun f => Prod.mk f.offset <$> sizeOf f.type : Sem (Array (Nat × Nat))).run P w = .ok (a.map fun f => (f.offset, szP P f.type)) w := by
          intro w
          rw [Array.mapM_eq_mapM_toList]
          simp only [Sem.run_map, hpa, Result.andThen_ok]
          congr 1
          apply Array.ext'; simp
        simp only [Instr.build, Sem.run_bind, ht.runZero, ht.runUnder, Result.andThen_ok, hmp, bind_pure_comp, hpa', hc1, Sem.run_pure]
      · cases h
    · cases h
  · cases h

theorem evNilEq_ok {op : BinOp} {t : TypeId} {x : Option SV} {ox : Operand} {u : Value} (h : evNilEq op (tyOf P t) x = .q c r) (hx : ∀ s, x = some s → Den β H s u) :
    ∃ z, (∀ w, (do eqGuard op t ox (.const .nilIface) u .nilIface; binOp op t u .nilIface : Sem Value).run P w = .ok z w) ∧ Den β H r z := by
  have hif : ∀ a b z, tyOf P t = some ⟨.iface, a, b, z⟩ → P.underlying t = some (.interface (P.methodsAt t)) := fun a b z hte => by
    obtain ⟨i1, d1, z1, ht1⟩ := tyOf_spec hte
    have hk := ht1.k
    have hu := ht1.under
    cases d1 <;> simp [tk] at hk
    rw [hu]; simp [Program.methodsAt, hu]
  have nn : (eqGuard op t ox (.const .nilIface) .nilIface .nilIface) = pure () := by cases op <;> cases ox <;> rfl
  have nh : ∀ q v, (eqGuard op t ox (.const .nilIface) (.iface q v) .nilIface) = pure () := fun q v => by cases op <;> rfl
  unfold evNilEq at h
  split at h
  · rename_i hti; have ht := hif _ _ _ hti; have hu := hx _ rfl; simp only [Den] at hu; rw [hu.1]; simp only [Res.q.injEq] at h; obtain ⟨-, rfl⟩ := h
    exact ⟨.bool true, fun w => by rw [nn]; simp [run_eql_nil_nil w t ht], den_val rfl⟩
  · rename_i hti; have ht := hif _ _ _ hti; have hu := hx _ rfl; simp only [Den] at hu; rw [hu.1]; simp only [Res.q.injEq] at h; obtain ⟨-, rfl⟩ := h
    exact ⟨.bool false, fun w => by rw [nn]; simp [run_neq_nil_nil w t ht], den_val rfl⟩
  · rename_i hti; have ht := hif _ _ _ hti; have hu := hx _ rfl; simp only [Den] at hu; obtain ⟨v, rfl, _⟩ := hu; simp only [Res.q.injEq] at h; obtain ⟨-, rfl⟩ := h
    exact ⟨.bool false, fun w => by rw [nh]; simp [run_eql_held_nil w t _ _ ht], den_val rfl⟩
  · rename_i hti; have ht := hif _ _ _ hti; have hu := hx _ rfl; simp only [Den] at hu; obtain ⟨v, rfl, _⟩ := hu; simp only [Res.q.injEq] at h; obtain ⟨-, rfl⟩ := h
    exact ⟨.bool true, fun w => by rw [nh]; simp [run_neq_held_nil w t _ _ ht], den_val rfl⟩
  · rename_i hti; have ht := hif _ _ _ hti; have hu := hx _ rfl; simp only [Den] at hu; obtain ⟨b, _, rfl⟩ := hu; simp only [Res.q.injEq] at h; obtain ⟨-, rfl⟩ := h
    exact ⟨.bool false, fun w => by rw [nh]; simp [run_eql_held_nil w t _ _ ht], den_val rfl⟩
  · rename_i hti; have ht := hif _ _ _ hti; have hu := hx _ rfl; simp only [Den] at hu; obtain ⟨b, _, rfl⟩ := hu; simp only [Res.q.injEq] at h; obtain ⟨-, rfl⟩ := h
    exact ⟨.bool true, fun w => by rw [nh]; simp [run_neq_held_nil w t _ _ ht], den_val rfl⟩
  · cases h

theorem evQ_still (hZ : ∀ k e d, M[k]? = some (some e) → β k = some (some d) → d.sz = e.sz ∨ (d.sz = 1 ∧ d.tot = 0)) {n : Nat} {fr : List (Nat × SV)} {a : Act} (hF : FOK β H n fr a) {o : Oper} (h : evQ P M fr o.op = .q c r) (hc : c) (hl : ∀ t x, o.op ≠ .load t x) (hcv : ∀ s d x, o.op = .convert s d x → ∀ el a b z, tyOf P s ≠ some ⟨.sl el, a, b, z⟩) :
    ∃ v, (∀ w, (execOp a.eval o).run P w = .ok (.value v) w) ∧ Den β H r v := by
  have hρ := fun o => fOK_den hF o
  have lift : ∀ {s : Sem Value}, (∃ z, (∀ w, s.run P w = .ok z w) ∧ Den β H r z) → ∃ v, (∀ w, (do pure (Next.value (← s)) : Sem Next).run P w = .ok (.value v) w) ∧ Den β H r v := fun ⟨z, h1, h2⟩ => ⟨z, fun w => by simp [h1], h2⟩
  obtain ⟨dst, op, type, pos, after, guard⟩ := o
  cases op <;> simp only [evQ] at h <;> simp only [execOp]
  case move x =>
    split at h
    · rename_i y hy; simp only [Res.q.injEq] at h; obtain ⟨-, rfl⟩ := h; exact ⟨_, fun _ => rfl, hρ x _ hy⟩
    · cases h
  case assign x =>
    split at h
    · rename_i y hy; simp only [Res.q.injEq] at h; obtain ⟨-, rfl⟩ := h; exact ⟨_, fun _ => rfl, hρ x _ hy⟩
    · cases h
  case pick cd x y =>
    unfold evPick at h
    split at h
    · rename_i hcd
      have hu := hρ cd _ hcd
      simp only [Den] at hu
      split at h
      · rename_i s hs; simp only [Res.q.injEq] at h; obtain ⟨-, rfl⟩ := h
        exact ⟨a.eval x, fun w => by rw [hu.1]; simp [asBool], hρ x _ hs⟩
      · cases h
    · rename_i hcd
      have hu := hρ cd _ hcd
      simp only [Den] at hu
      split at h
      · rename_i s hs; simp only [Res.q.injEq] at h; obtain ⟨-, rfl⟩ := h
        exact ⟨a.eval y, fun w => by rw [hu.1]; simp [asBool], hρ y _ hs⟩
      · cases h
    · cases h
  case binOp op t x y t' =>
    unfold evBinP at h
    split at h
    · rename_i a b hx hy
      exact lift (evAggEq_ok h (hρ x _ hx) (hρ y _ hy))
    · unfold evBinO at h
      split at h
      · rename_i hy
        have hy' : y = .const .nilIface := by
          unfold isNil at hy; split at hy
          · rfl
          · cases hy
        subst hy'
        exact lift (evNilEq_ok h (hρ x))
      · exact lift (evBin_ok h hc (hρ x) (hρ y))
  case unOp op t x =>
    unfold evUn at h
    split at h
    · rename_i k m hx
      have hu := hρ x _ hx
      simp only [Den] at hu
      simp only [Res.q.injEq] at h
      obtain ⟨-, rfl⟩ := h
      exact lift ⟨_, fun w => by rw [hu.1]; simp [Op.unary, Op.intArith], den_val rfl⟩
    · rename_i b hx
      have hu := hρ x _ hx
      simp only [Den] at hu
      simp only [Res.q.injEq] at h
      obtain ⟨-, rfl⟩ := h
      exact lift ⟨_, fun w => by rw [hu.1]; simp [Op.unary], den_val rfl⟩
    · cases h
  case convert s d x =>
    unfold evConv at h
    split at h
    · rename_i hts _; exact absurd hts (hcv _ _ _ rfl _ _ _ _)
    unfold evConvI at h
    split at h
    · rename_i ti k _ _ _ k' m hti htj hx
      have hu := hρ x _ hx
      simp only [Den] at hu
      simp only [Res.q.injEq] at h
      obtain ⟨-, rfl⟩ := h
      obtain ⟨i1, d1, z1, ht1⟩ := tyOf_spec htj
      obtain ⟨i2, d2, z2, ht2⟩ := tyOf_spec hti
      obtain rfl := tk_int ht1.k
      exact lift ⟨_, fun w => by rw [hu.1]; simp [convert, ht1.runUnder, ht2.runUnder, Conv.intToInt], den_val rfl⟩
    · cases h
  case nilCheck x =>
    unfold evNil at h
    split at h
    · rename_i k i j hx
      have hu := hρ x _ hx
      simp only [Res.q.injEq] at h
      obtain ⟨-, rfl⟩ := h
      have hu' := hu
      simp only [Den] at hu
      obtain ⟨d, _, hu2⟩ := hu
      rw [hu2] at hu' ⊢
      exact ⟨_, fun _ => rfl, hu'⟩
    · rename_i y j hx
      have hu := hρ x _ hx
      simp only [Res.q.injEq] at h
      obtain ⟨-, rfl⟩ := h
      have hu' := hu
      simp only [Den] at hu
      obtain ⟨b, o, cs, v, hu2, _⟩ := hu
      rw [hu2] at hu' ⊢
      exact ⟨_, fun _ => rfl, hu'⟩
    · rename_i t y hx
      have hu := hρ x _ hx
      simp only [Res.q.injEq] at h
      obtain ⟨-, rfl⟩ := h
      have hu' := hu
      simp only [Den] at hu
      obtain ⟨v, hu2, _⟩ := hu
      rw [hu2] at hu' ⊢
      exact ⟨_, fun _ => rfl, hu'⟩
    · cases h
  case extract x i =>
    unfold evExtract at h
    split at h
    · rename_i l hx
      have hu := hρ x _ hx
      simp only [Den] at hu
      obtain ⟨vs, hu1, hu2⟩ := hu
      simp only [Res.q.injEq] at h
      obtain ⟨rfl, rfl⟩ := h
      obtain ⟨v, hv1, hv2⟩ := hu2.get hc
      exact lift ⟨v, fun w => by rw [hu1]; simp [Instr.extract, hv1], hv2⟩
    · cases h
  case field t x f => exact lift (evField_ok h hc (hρ x))
  case fieldAddr t x f => exact lift (evFieldAddr_ok h hc (hρ x))
  case indexAddr t x i => exact lift (evIndexAddr_ok hZ h hc (hρ x) (hρ i))
  case index t x i => exact lift (evIndex_ok h hc (hρ x) (hρ i))
  case load t x => exact absurd rfl (hl t x)
  case slice t x lo hi mx =>
    split at h
    · cases h
    · rename_i hm
      exact lift (evSlice_ok hZ hρ h hc (hρ x) (fun h1 => by cases hi with | none => simp [h1] at hm | some _ => rfl))
  case makeInterface t x =>
    unfold evIface at h
    split at h
    · cases h
    · rename_i ti y hne hti hy
      simp only [Res.q.injEq] at h
      obtain ⟨-, rfl⟩ := h
      obtain ⟨i1, d1, z1, ht1⟩ := tyOf_spec hti
      refine lift ⟨.iface t (a.eval x), fun w => ?_, by simp only [Den]; exact ⟨_, rfl, hρ x _ hy⟩⟩
      simp only [Instr.makeInterface, Sem.run_bind, ht1.runUnder, Result.andThen_ok]
      cases d1 <;> simp
      obtain ⟨k, s, b, z⟩ := ti
      have := ht1.k
      simp [tk] at this
      subst this
      exact hne _ _ _ rfl
    · cases h
  case build t parts => exact lift (evBuild_ok hρ h)
  case call cl =>
    obtain ⟨callee, args, ts⟩ := cl
    cases callee with
    | builtin b =>
      change evBuiltin P b ts (args.toList.map (ev fr)) = Res.q c r at h
      simp only [resolve, Sem.run_bind, Sem.run_pure, Result.andThen_ok, invoke]
      have ext : ∀ {s : Sem Value}, (∃ z, (∀ w, s.run P w = .ok z w) ∧ Den β H r z) → ∃ v, (∀ w, (do pure (Next.value (← s)) : Sem Next).run P w = .ok (.value v) w) ∧ Den β H r v := fun ⟨z, h1, h2⟩ => ⟨z, fun w => by simp [h1], h2⟩
      unfold evBuiltin at h
      split at h
      · rename_i x hxs
        obtain ⟨o, ho, rfl⟩ : ∃ o, args.toList = [o] ∧ ev fr o = x := by
          cases ha : args.toList with
          | nil => rw [ha] at hxs; simp at hxs
          | cons o l => cases l with
            | nil => rw [ha] at hxs; exact ⟨o, rfl, by simpa using hxs⟩
            | cons o' l => rw [ha] at hxs; simp at hxs
        have harg : args = #[o] := by apply Array.ext'; simpa using ho
        subst harg
        simp only [builtin]
        refine ext ?_
        unfold evLen at h
        cases ht0 : ts[0]? with
        | none => rw [ht0] at h; simp at h
        | some t0 =>
          rw [ht0] at h
          simp only [Option.bind_some] at h
          split at h
          · rename_i hti hx
            have hu := hρ o _ hx
            simp only [Den] at hu
            simp only [Res.q.injEq] at h
            obtain ⟨-, rfl⟩ := h
            obtain ⟨i1, d1, z1, ht1⟩ := tyOf_spec hti
            obtain rfl := tk_sl ht1.k
            exact ⟨_, fun w => by simp [Builtin.len_, ht0, hu.1, ht1.runUnder, goInt], den_val rfl⟩
          · rename_i es hti hx
            have hu := hρ o _ hx
            simp only [Den] at hu
            simp only [Res.q.injEq] at h
            obtain ⟨-, rfl⟩ := h
            obtain ⟨i1, d1, z1, ht1⟩ := tyOf_spec hti
            obtain rfl := tk_sl ht1.k
            rcases hu with ⟨rfl, _, _, hu⟩ | ⟨b, o', c', s, cs, vs, hu, _⟩
            · exact ⟨_, fun w => by simp [Builtin.len_, ht0, hu, ht1.runUnder, goInt], den_val rfl⟩
            · exact ⟨_, fun w => by simp [Builtin.len_, ht0, hu, ht1.runUnder, goInt], den_val rfl⟩
          · rename_i k i n hti hx
            have hu := hρ o _ hx
            simp only [Den] at hu
            simp only [Res.q.injEq] at h
            obtain ⟨-, rfl⟩ := h
            obtain ⟨i1, d1, z1, ht1⟩ := tyOf_spec hti
            obtain rfl := tk_sl ht1.k
            rcases hu with ⟨_, _, rfl, hu⟩ | ⟨d, c', o', _, _, _, _, hu⟩
            · exact ⟨_, fun w => by simp [Builtin.len_, ht0, hu, ht1.runUnder, goInt], den_val rfl⟩
            · exact ⟨_, fun w => by simp [Builtin.len_, ht0, hu, ht1.runUnder, goInt], den_val rfl⟩
          · rename_i s hti hx
            have hu := hρ o _ hx
            simp only [Den] at hu
            simp only [Res.q.injEq] at h
            obtain ⟨-, rfl⟩ := h
            obtain ⟨i1, d1, z1, ht1⟩ := tyOf_spec hti
            obtain rfl := tk_str ht1.k
            exact ⟨_, fun w => by simp [Builtin.len_, ht0, hu.1, ht1.runUnder, goInt], den_val rfl⟩
          · cases h
      · rename_i x hxs
        obtain ⟨o, ho, rfl⟩ : ∃ o, args.toList = [o] ∧ ev fr o = x := by
          cases ha : args.toList with
          | nil => rw [ha] at hxs; simp at hxs
          | cons o l => cases l with
            | nil => rw [ha] at hxs; exact ⟨o, rfl, by simpa using hxs⟩
            | cons o' l => rw [ha] at hxs; simp at hxs
        have harg : args = #[o] := by apply Array.ext'; simpa using ho
        subst harg
        simp only [builtin]
        refine ext ?_
        unfold evClear at h
        cases ht0 : ts[0]? with
        | none => rw [ht0] at h; simp at h
        | some t0 =>
          rw [ht0] at h
          simp only [Option.bind_some] at h
          split at h
          · rename_i hti hx
            have hu := hρ o _ hx
            simp only [Den] at hu
            simp only [Res.q.injEq] at h
            obtain ⟨-, rfl⟩ := h
            obtain ⟨i1, d1, z1, ht1⟩ := tyOf_spec hti
            obtain rfl := tk_sl ht1.k
            exact ⟨.tuple #[], fun w => by simp [Builtin.clear_, ht0, hu.1, ht1.runUnder], by simp only [Den]; exact ⟨[], rfl, by simp [DenT]⟩⟩
          · rename_i k i n hti hx
            have hu := hρ o _ hx
            simp only [Den] at hu
            simp only [Res.q.injEq] at h
            obtain ⟨rfl, rfl⟩ := h
            subst hc
            obtain ⟨i1, d1, z1, ht1⟩ := tyOf_spec hti
            obtain rfl := tk_sl ht1.k
            rcases hu with ⟨_, _, _, hu⟩ | ⟨d, c', o', _, _, _, _, hu⟩
            · exact ⟨.tuple #[], fun w => by simp [Builtin.clear_, ht0, hu, ht1.runUnder], by simp only [Den]; exact ⟨[], rfl, by simp [DenT]⟩⟩
            · exact ⟨.tuple #[], fun w => by simp [Builtin.clear_, ht0, hu, ht1.runUnder], by simp only [Den]; exact ⟨[], rfl, by simp [DenT]⟩⟩
          · cases h
      all_goals first
        | cases h
        | (rename_i x y hxs
           obtain ⟨o1, o2, ho, rfl, rfl⟩ : ∃ o1 o2, args.toList = [o1, o2] ∧ ev fr o1 = x ∧ ev fr o2 = y := by
             cases ha : args.toList with
             | nil => rw [ha] at hxs; simp at hxs
             | cons o l => cases l with
               | nil => rw [ha] at hxs; simp at hxs
               | cons o' l => cases l with
                 | nil => rw [ha] at hxs; simp at hxs; exact ⟨o, o', rfl, hxs.1, hxs.2⟩
                 | cons o'' l => rw [ha] at hxs; simp at hxs
           have harg : args = #[o1, o2] := by apply Array.ext'; simpa using ho
           subst harg
           simp only [builtin]
           refine ext ?_
           unfold evMinMax at h
           split at h
           · rename_i k m k' n hx hy
             have hu := hρ o1 _ hx
             have hv := hρ o2 _ hy
             simp only [Den] at hu hv
             simp only [Res.q.injEq] at h
             obtain ⟨-, rfl⟩ := h
             exact ⟨_, fun w => by simp [Builtin.max_, Builtin.max2, Builtin.min_, Builtin.min2, hu.1, hv.1], den_val rfl⟩
           · cases h)
    | value f => cases h
    | invoke r m => cases h
  case makeFunc fn l r' =>
    cases fn with
    | func f =>
      simp only at h
      unfold fnvO at h
      split at h
      · rename_i xs ys hxs hys
        simp only [Res.q.injEq] at h
        obtain ⟨-, rfl⟩ := h
        refine lift ⟨.func (.func f) (l.map a.eval) (r'.map a.eval), fun w => rfl, ?_⟩
        simp only [Den]
        refine ⟨_, _, ?_, evs_den hF _ _ hxs, evs_den hF _ _ hys⟩
        congr 1 <;> (apply Array.ext'; simp)
      · cases h
    | _ => cases h
  all_goals cases h

theorem WOK.hsz (hW : WOK C β H M w) : ∀ k e d, M[k]? = some (some e) → β k = some (some d) → d.sz = e.sz ∨ (d.sz = 1 ∧ d.tot = 0) := fun k e d hk hd => by
  rcases hW.ents k e hk with ⟨h4, _⟩ | ⟨d', cs, T, vs, h4, h5, _⟩ | ⟨d', ms, h4, h5, _⟩
  · rw [hd] at h4; simp at h4
  · rw [hd] at h4; simp only [Option.some.injEq] at h4; subst h4; exact .inl h5
  · rw [hd] at h4; simp only [Option.some.injEq] at h4; subst h4; exact .inr h5.2

/-- bytes to a string -/
theorem evQ_conv (hW : WOK C β H M w) {n : Nat} {fr : List (Nat × SV)} {a : Act} (hF : FOK β H n fr a) {s d : TypeId} {x : Operand} {el : TypeId} {a' b : Nat} {zz : List SV} {dst type pos after guard} (h : evQ P M fr (.convert s d x) = .q c r) (hc : c) (hts : tyOf P s = some ⟨.sl el, a', b, zz⟩) :
    ∃ v, (execOp a.eval ⟨dst, .convert s d x, type, pos, after, guard⟩).run P w = .ok (.value v) w ∧ Den β H r v ∧ ((∀ k i n, ev fr x ≠ some (.view k i n)) → ∀ w' : World, (∀ b cs, H b = some cs → ∃ T z, w'.heap[b]? = some (.cells cs T z)) → (execOp a.eval ⟨dst, .convert s d x, type, pos, after, guard⟩).run P w' = .ok (.value v) w') := by
  simp only [evQ, hts] at h
  unfold evConv at h
  split at h
  · rename_i el' _ _ _ _ _ _ he htd
    simp only [Option.some.injEq, TI.mk.injEq, TK.sl.injEq] at he
    obtain ⟨rfl, -, -, -⟩ := he
    obtain ⟨i1, d1, z1, ht1⟩ := tyOf_spec hts
    obtain ⟨i2, d2, z2, ht2⟩ := tyOf_spec htd
    obtain rfl := tk_sl ht1.k
    obtain rfl := tk_str ht2.k
    obtain ⟨z, h1, h2, h3⟩ := evStr_ok hW ht1.under ht2.under h hc (fOK_den hF x)
    exact ⟨z, by simp [execOp, h1], h2, fun hn w' hw' => by simp [execOp, h3 hn w' hw']⟩
  · rename_i hno
    unfold evConvI at h
    split at h
    · rename_i ti kk _ _ _ k' m hti htj hx
      simp only [Res.q.injEq] at h
      obtain ⟨-, rfl⟩ := h
      obtain ⟨i1, d1, z1, ht1⟩ := tyOf_spec hts
      obtain ⟨i2, d2, z2, ht2⟩ := tyOf_spec htj
      obtain rfl := tk_int ht2.k
      have hu := fOK_den hF x _ hx
      simp only [Den] at hu
      exact ⟨_, by rw [show execOp a.eval ⟨dst, .convert s d x, type, pos, after, guard⟩ = (do pure (Next.value (← convert s d (a.eval x)))) from rfl, hu.1]; simp [convert, ht1.runUnder, ht2.runUnder, Conv.intToInt], den_val rfl, fun _ w' _ => by
        rw [show execOp a.eval ⟨dst, .convert s d x, type, pos, after, guard⟩ = (do pure (Next.value (← convert s d (a.eval x)))) from rfl, hu.1]; simp [convert, ht1.runUnder, ht2.runUnder, Conv.intToInt]⟩
    · cases h

theorem evQ_ok (hW : WOK C β H M w) {n : Nat} {fr : List (Nat × SV)} {a : Act} (hF : FOK β H n fr a) {o : Oper} (h : evQ P M fr o.op = .q c r) (hc : c) :
    ∃ v, (execOp a.eval o).run P w = .ok (.value v) w ∧ Den β H r v := by
  by_cases hl : ∃ t x, o.op = .load t x
  · obtain ⟨t, x, ho⟩ := hl
    obtain ⟨dst, op, type, pos, after, guard⟩ := o
    simp only at ho
    subst ho
    simp only [evQ] at h
    obtain ⟨z, h1, h2⟩ := evLoad_ok (P := P) hW h hc (fOK_den hF x)
    exact ⟨z, by simp [execOp, h1 w (fun _ _ _ _ => rfl)], h2⟩
  · by_cases hcv : ∃ s d x el a b z, o.op = .convert s d x ∧ tyOf P s = some ⟨.sl el, a, b, z⟩
    · obtain ⟨s, d, x, el, a', b, z, ho, hts⟩ := hcv
      obtain ⟨dst, op, type, pos, after, guard⟩ := o
      simp only at ho
      subst ho
      obtain ⟨v, h1, h2, -⟩ := evQ_conv hW hF h hc hts
      exact ⟨v, h1, h2⟩
    · obtain ⟨v, h1, h2⟩ := evQ_still (P := P) hW.hsz hF h hc (fun t x e => hl ⟨t, x, e⟩) (fun s d x e el a' b z e' => hcv ⟨s, d, x, el, a', b, z, e, e'⟩)
      exact ⟨v, h1 w, h2⟩

end
end Go.Sv

