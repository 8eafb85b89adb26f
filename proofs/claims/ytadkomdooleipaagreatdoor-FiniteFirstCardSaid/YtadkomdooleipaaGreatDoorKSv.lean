/- Symbolic values: what a slot of a frame or a cell of memory holds, told without any address; and when a value of the model is told by one. A text of the prover's own; it names no program. -/
import Derived.OrdersHeld
import Derived.Tactics
namespace Go.Sv
open Go

inductive SV where
  | val (v : Value)
  | ptr (k i j : Nat)
  | view (k i n : Nat)
  | ro (es : List SV)
  | rop (x : SV) (j : Nat)
  | agg (l : List SV)
  | tup (l : List SV)
  | ifc (t : TypeId) (x : SV)
  /-- what package variable g holds: an error of its own, of type t -/
  | sen (t : TypeId) (g : Nat)
  /-- some value of one cell, of which nothing is told -/
  | any
  /-- a function with what is bound to it -/
  | fnv (f : FuncId) (l r : List SV)
  /-- the map that an entry holds -/
  | mp (k : Nat)

instance : Inhabited SV := ⟨.val undef⟩

/-- What a number of an entry stands for: none of the call's own (none), the nil slice (some none), a block, its size in cells, the size of an element. -/
structure Bd where
  b : Nat
  tot : Nat
  sz : Nat
abbrev Bnd := Nat → Option (Option Bd)
/-- Blocks whose cells nobody will write any more. -/
abbrev Hp := Nat → Option (Array Value)
def noB : Bnd := fun _ => none

def SV.one : SV → Bool
  | .agg _ | .tup _ => false
  | .val v => v.oneCell'
  | _ => true

mutual
def Den (β : Bnd) (H : Hp) : SV → Value → Prop
  | .val v, u => u = v ∧ v.oneCell' = true
  | .ptr k i j, u => ∃ d, β k = some (some d) ∧ u = .pointer (some ⟨d.b, i * d.sz + j, none⟩)
  | .view k i n, u => (β k = some none ∧ i = 0 ∧ n = 0 ∧ u = .slice none 0 0) ∨
      ∃ d c o, β k = some (some d) ∧ n ≤ c ∧ (i + c) * d.sz ≤ d.tot ∧ (c ≠ 0 → o = i * d.sz) ∧ u = .slice (some ⟨d.b, o, none⟩) n c
  | .ro es, u => (es = [] ∧ ∃ a c, u = .slice a 0 c) ∨
      ∃ b o c s cs vs, u = .slice (some ⟨b, o, none⟩) es.length c ∧ es.length ≤ c ∧ H b = some cs ∧ DenE noB H s es vs ∧ ∀ i, i < vs.length → cs[o + i]? = vs[i]?
  | .rop x j, u => ∃ b o cs v, u = .pointer (some ⟨b, o + j, none⟩) ∧ H b = some cs ∧ Den noB H x v ∧ ∀ i, i < v.cells.size → cs[o + i]? = v.cells[i]?
  | .agg l, u => ∃ vs, u = .agg vs.toArray ∧ DenL β H l vs
  | .tup l, u => ∃ vs, u = .tuple vs.toArray ∧ DenT β H l vs
  | .ifc t x, u => ∃ v, u = .iface t v ∧ Den β H x v
  | .sen t g, u => ∃ b : Addr, H g = some #[.iface t (.pointer (some b))] ∧ u = .iface t (.pointer (some b))
  | .any, u => u.oneCell' = true
  | .fnv f l r, u => ∃ vs ws, u = .func (.func f) vs.toArray ws.toArray ∧ DenT β H l vs ∧ DenT β H r ws
  | .mp k, u => ∃ d, β k = some (some d) ∧ d.sz = 1 ∧ u = .map (some d.b)
/-- cells -/
def DenL (β : Bnd) (H : Hp) : List SV → List Value → Prop
  | [], vs => vs = []
  | x :: l, vs => ∃ v r, vs = v :: r ∧ x.one = true ∧ Den β H x v ∧ DenL β H l r
/-- a tuple's parts -/
def DenT (β : Bnd) (H : Hp) : List SV → List Value → Prop
  | [], vs => vs = []
  | x :: l, vs => ∃ v r, vs = v :: r ∧ Den β H x v ∧ DenT β H l r
/-- elements of 's' cells each, one behind the other -/
def DenE (β : Bnd) (H : Hp) (s : Nat) : List SV → List Value → Prop
  | [], vs => vs = []
  | x :: l, vs => ∃ v r, vs = v.cells.toList ++ r ∧ v.cells.size = s ∧ Den β H x v ∧ DenE β H s l r
end

mutual
/-- does it name entry k? -/
def SV.uses (k : Nat) : SV → Bool
  | .ptr k' _ _ => k' == k
  | .view k' _ _ => k' == k
  | .agg l => SV.usesL k l
  | .tup l => SV.usesL k l
  | .ifc _ x => x.uses k
  | .fnv _ l r => SV.usesL k l || SV.usesL k r
  | .mp k' => k' == k
  | _ => false
def SV.usesL (k : Nat) : List SV → Bool
  | [] => false
  | x :: l => x.uses k || SV.usesL k l
end

mutual
/-- no entry is named -/
def SV.pure : SV → Bool
  | .ptr _ _ _ => false
  | .view _ _ _ => false
  | .agg l => SV.pureL l
  | .tup l => SV.pureL l
  | .ifc _ x => x.pure
  | .fnv _ l r => SV.pureL l && SV.pureL r
  | .mp _ => false
  | _ => true
def SV.pureL : List SV → Bool
  | [] => true
  | x :: l => x.pure && SV.pureL l
end
mutual
theorem SV.pure_uses (k : Nat) : ∀ x : SV, x.pure = true → x.uses k = false
  | .val _, _ => rfl
  | .ptr _ _ _, h => by simp [SV.pure] at h
  | .view _ _ _, h => by simp [SV.pure] at h
  | .mp _, h => by simp [SV.pure] at h
  | .ro _, _ => rfl
  | .rop _ _, _ => rfl
  | .sen _ _, _ => rfl
  | .any, _ => rfl
  | .fnv _ l r, h => by
    simp only [SV.pure, Bool.and_eq_true] at h
    simp [SV.uses, SV.pureL_uses k l h.1, SV.pureL_uses k r h.2]
  | .agg l, h => by simp only [SV.uses]; exact SV.pureL_uses k l (by simpa [SV.pure] using h)
  | .tup l, h => by simp only [SV.uses]; exact SV.pureL_uses k l (by simpa [SV.pure] using h)
  | .ifc _ x, h => by simp only [SV.uses]; exact SV.pure_uses k x (by simpa [SV.pure] using h)
theorem SV.pureL_uses (k : Nat) : ∀ l : List SV, SV.pureL l = true → SV.usesL k l = false
  | [], _ => rfl
  | x :: l, h => by
    simp only [SV.pureL, Bool.and_eq_true] at h
    simp [SV.usesL, SV.pure_uses k x h.1, SV.pureL_uses k l h.2]
end

def SV.cells : SV → List SV
  | .agg l => l
  | x => [x]

/-- how many cells -/
def SV.csz : SV → Nat
  | .agg l => l.length
  | _ => 1

mutual
theorem Den.mono {β β' : Bnd} {H H' : Hp} (hH : ∀ b cs, H b = some cs → H' b = some cs) :
    ∀ (x : SV) (u : Value), (∀ k d, x.uses k = true → β k = some d → β' k = some d) → Den β H x u → Den β' H' x u
  | .val v, u, _, h => by simpa [Den] using h
  | .ptr k i j, u, hb, h => by
    simp only [Den] at h ⊢
    obtain ⟨d, h1, h2⟩ := h
    exact ⟨d, hb k _ (by simp [SV.uses]) h1, h2⟩
  | .view k i n, u, hb, h => by
    simp only [Den] at h ⊢
    rcases h with ⟨h1, h2⟩ | ⟨d, c, o, h1, h2⟩
    · exact .inl ⟨hb k _ (by simp [SV.uses]) h1, h2⟩
    · exact .inr ⟨d, c, o, hb k _ (by simp [SV.uses]) h1, h2⟩
  | .ro es, u, _, h => by
    simp only [Den] at h ⊢
    rcases h with h | ⟨b, o, c, s, cs, vs, h1, h2, h3, h4, h5⟩
    · exact .inl h
    · exact .inr ⟨b, o, c, s, cs, vs, h1, h2, hH _ _ h3, DenE.mono hH s es vs (fun k d _ h => h) h4, h5⟩
  | .rop x j, u, _, h => by
    simp only [Den] at h ⊢
    obtain ⟨b, o, cs, v, h1, h2, h3, h4⟩ := h
    exact ⟨b, o, cs, v, h1, hH _ _ h2, Den.mono hH x v (fun k d _ h => h) h3, h4⟩
  | .agg l, u, hb, h => by
    simp only [Den] at h ⊢
    obtain ⟨vs, h1, h2⟩ := h
    exact ⟨vs, h1, DenL.mono hH l vs (fun k d hk => hb k d (by simpa [SV.uses] using hk)) h2⟩
  | .tup l, u, hb, h => by
    simp only [Den] at h ⊢
    obtain ⟨vs, h1, h2⟩ := h
    exact ⟨vs, h1, DenT.mono hH l vs (fun k d hk => hb k d (by simpa [SV.uses] using hk)) h2⟩
  | .ifc t x, u, hb, h => by
    simp only [Den] at h ⊢
    obtain ⟨v, h1, h2⟩ := h
    exact ⟨v, h1, Den.mono hH x v (fun k d hk => hb k d (by simpa [SV.uses] using hk)) h2⟩
  | .sen t g, u, _, h => by
    simp only [Den] at h ⊢
    obtain ⟨b, h1, h2⟩ := h
    exact ⟨b, hH _ _ h1, h2⟩
  | .any, u, _, h => by simpa [Den] using h
  | .mp k, u, hb, h => by
    simp only [Den] at h ⊢
    obtain ⟨d, h1, h2⟩ := h
    exact ⟨d, hb k _ (by simp [SV.uses]) h1, h2⟩
  | .fnv f l r, u, hb, h => by
    simp only [Den] at h ⊢
    obtain ⟨vs, ws, h1, h2, h3⟩ := h
    exact ⟨vs, ws, h1, DenT.mono hH l vs (fun k d hk => hb k d (by simp [SV.uses, hk])) h2, DenT.mono hH r ws (fun k d hk => hb k d (by simp [SV.uses, hk])) h3⟩
theorem DenL.mono {β β' : Bnd} {H H' : Hp} (hH : ∀ b cs, H b = some cs → H' b = some cs) :
    ∀ (l : List SV) (vs : List Value), (∀ k d, SV.usesL k l = true → β k = some d → β' k = some d) → DenL β H l vs → DenL β' H' l vs
  | [], vs, _, h => by simpa [DenL] using h
  | x :: l, vs, hb, h => by
    simp only [DenL] at h ⊢
    obtain ⟨v, r, h1, h2, h3, h4⟩ := h
    exact ⟨v, r, h1, h2, Den.mono hH x v (fun k d hk => hb k d (by simp [SV.usesL, hk])) h3, DenL.mono hH l r (fun k d hk => hb k d (by simp [SV.usesL, hk])) h4⟩
theorem DenT.mono {β β' : Bnd} {H H' : Hp} (hH : ∀ b cs, H b = some cs → H' b = some cs) :
    ∀ (l : List SV) (vs : List Value), (∀ k d, SV.usesL k l = true → β k = some d → β' k = some d) → DenT β H l vs → DenT β' H' l vs
  | [], vs, _, h => by simpa [DenT] using h
  | x :: l, vs, hb, h => by
    simp only [DenT] at h ⊢
    obtain ⟨v, r, h1, h3, h4⟩ := h
    exact ⟨v, r, h1, Den.mono hH x v (fun k d hk => hb k d (by simp [SV.usesL, hk])) h3, DenT.mono hH l r (fun k d hk => hb k d (by simp [SV.usesL, hk])) h4⟩
theorem DenE.mono {β β' : Bnd} {H H' : Hp} (hH : ∀ b cs, H b = some cs → H' b = some cs) (s : Nat) :
    ∀ (l : List SV) (vs : List Value), (∀ k d, SV.usesL k l = true → β k = some d → β' k = some d) → DenE β H s l vs → DenE β' H' s l vs
  | [], vs, _, h => by simpa [DenE] using h
  | x :: l, vs, hb, h => by
    simp only [DenE] at h ⊢
    obtain ⟨v, r, h1, h2, h3, h4⟩ := h
    exact ⟨v, r, h1, h2, Den.mono hH x v (fun k d hk => hb k d (by simp [SV.usesL, hk])) h3, DenE.mono hH s l r (fun k d hk => hb k d (by simp [SV.usesL, hk])) h4⟩
end

theorem Den.up {β β' : Bnd} {H H' : Hp} {x : SV} {u : Value} (h : Den β H x u) (hb : ∀ k d, β k = some d → β' k = some d) (hH : ∀ b cs, H b = some cs → H' b = some cs) : Den β' H' x u :=
  Den.mono hH x u (fun k d _ => hb k d) h

theorem Den.any {β β' : Bnd} {H H' : Hp} {x : SV} {u : Value} (h : Den β H x u) (hx : x.pure = true) (hH : ∀ b cs, H b = some cs → H' b = some cs) : Den β' H' x u :=
  Den.mono hH x u (fun k d hk => by simp [SV.pure_uses k x hx] at hk) h
theorem DenE.any {β β' : Bnd} {H H' : Hp} {s : Nat} {l : List SV} {u : List Value} (h : DenE β H s l u) (hx : SV.pureL l = true) (hH : ∀ b cs, H b = some cs → H' b = some cs) : DenE β' H' s l u :=
  DenE.mono hH s l u (fun k d hk => by simp [SV.pureL_uses k l hx] at hk) h
theorem DenT.any {β β' : Bnd} {H H' : Hp} {l : List SV} {u : List Value} (h : DenT β H l u) (hx : SV.pureL l = true) (hH : ∀ b cs, H b = some cs → H' b = some cs) : DenT β' H' l u :=
  DenT.mono hH l u (fun k d hk => by simp [SV.pureL_uses k l hx] at hk) h

theorem oneCell_cells {v : Value} (h : v.oneCell' = true) : v.cells = #[v] := by
  cases v <;> simp_all [Value.oneCell', Value.cells]

theorem DenL.length {β : Bnd} {H : Hp} : ∀ {l : List SV} {vs : List Value}, DenL β H l vs → vs.length = l.length
  | [], vs, h => by simp [DenL] at h; simp [h]
  | x :: l, vs, h => by
    simp only [DenL] at h
    obtain ⟨v, r, h1, h2, h3, h4⟩ := h
    simp [h1, h4.length]

theorem Den.one {β : Bnd} {H : Hp} {x : SV} {u : Value} (h : Den β H x u) (hx : x.one = true) : u.oneCell' = true := by
  cases x <;> simp only [Den, SV.one] at h hx
  case val v => simp [h.1, h.2]
  case ptr => obtain ⟨d, h1, h2⟩ := h; simp [h2, Value.oneCell']
  case view => rcases h with ⟨_, _, _, h⟩ | ⟨d, c, o, _, _, _, _, h⟩ <;> simp [h, Value.oneCell']
  case ro => rcases h with ⟨_, _, _, h⟩ | ⟨b, o, c, s, cs, vs, h, _⟩ <;> simp [h, Value.oneCell']
  case rop => obtain ⟨b, o, cs, v, h, _⟩ := h; simp [h, Value.oneCell']
  case ifc => obtain ⟨v, h, _⟩ := h; simp [h, Value.oneCell']
  case sen => obtain ⟨b, _, h⟩ := h; simp [h, Value.oneCell']
  case any => exact h
  case fnv => obtain ⟨vs, ws, h, _⟩ := h; simp [h, Value.oneCell']
  case mp => obtain ⟨d, _, _, h⟩ := h; simp [h, Value.oneCell']
  all_goals simp at hx

theorem Den.notTuple {β : Bnd} {H : Hp} {x : SV} {u : Value} (h : Den β H x u) : (∃ l, x = .tup l) ∨ u.cells.size = x.csz := by
  cases x
  case tup l => exact .inl ⟨l, rfl⟩
  case agg l =>
    simp only [Den] at h
    obtain ⟨vs, h1, h2⟩ := h
    right; simp [h1, Value.cells, SV.csz, h2.length]
  case val v => simp only [Den] at h; right; rw [oneCell_cells (by rw [h.1]; exact h.2)]; simp [SV.csz]
  all_goals (right; rw [oneCell_cells (Den.one h rfl)]; simp [SV.csz])

/-- the i-th, or something -/
def lget : List SV → Nat → SV
  | [], _ => default
  | x :: _, 0 => x
  | _ :: l, n + 1 => lget l n
def lset : List SV → Nat → SV → List SV
  | [], _, _ => []
  | _ :: l, 0, y => y :: l
  | x :: l, n + 1, y => x :: lset l n y

theorem DenL.get {β : Bnd} {H : Hp} : ∀ {l : List SV} {vs : List Value} {i : Nat}, DenL β H l vs → i < l.length → ∃ v, vs[i]? = some v ∧ (lget l i).one = true ∧ Den β H (lget l i) v
  | x :: l, vs, 0, h, _ => by
    simp only [DenL] at h
    obtain ⟨v, r, rfl, h2, h3, h4⟩ := h
    exact ⟨v, by simp, h2, h3⟩
  | x :: l, vs, i + 1, h, hi => by
    simp only [DenL] at h
    obtain ⟨v, r, rfl, h2, h3, h4⟩ := h
    obtain ⟨w, hw⟩ := h4.get (i := i) (by simpa using hi)
    exact ⟨w, by simpa using hw.1, hw.2⟩
theorem DenT.get {β : Bnd} {H : Hp} : ∀ {l : List SV} {vs : List Value} {i : Nat}, DenT β H l vs → i < l.length → ∃ v, vs[i]? = some v ∧ Den β H (lget l i) v
  | x :: l, vs, 0, h, _ => by
    simp only [DenT] at h
    obtain ⟨v, r, rfl, h3, h4⟩ := h
    exact ⟨v, by simp, h3⟩
  | x :: l, vs, i + 1, h, hi => by
    simp only [DenT] at h
    obtain ⟨v, r, rfl, h3, h4⟩ := h
    obtain ⟨w, hw⟩ := h4.get (i := i) (by simpa using hi)
    exact ⟨w, by simpa using hw.1, hw.2⟩

theorem DenE.length {β : Bnd} {H : Hp} {s : Nat} : ∀ {l : List SV} {vs : List Value}, DenE β H s l vs → vs.length = l.length * s
  | [], vs, h => by simp [DenE] at h; simp [h]
  | x :: l, vs, h => by
    simp only [DenE] at h
    obtain ⟨v, r, rfl, h2, h3, h4⟩ := h
    have := h4.length
    simp [this, h2, Nat.add_mul]; omega

/-- the cells of the i-th element -/
theorem DenE.get {β : Bnd} {H : Hp} {s : Nat} : ∀ {l : List SV} {vs : List Value} {i : Nat}, DenE β H s l vs → i < l.length →
    ∃ v, Den β H (lget l i) v ∧ v.cells.size = s ∧ ∀ j, j < s → vs[i * s + j]? = v.cells[j]?
  | x :: l, vs, 0, h, _ => by
    simp only [DenE] at h
    obtain ⟨v, r, rfl, h2, h3, h4⟩ := h
    refine ⟨v, h3, h2, fun j hj => ?_⟩
    rw [Nat.zero_mul, Nat.zero_add, List.getElem?_append_left (by simpa [h2] using hj)]
    simp
  | x :: l, vs, i + 1, h, hi => by
    simp only [DenE] at h
    obtain ⟨v, r, rfl, h2, h3, h4⟩ := h
    obtain ⟨w, hw1, hw2, hw3⟩ := h4.get (i := i) (by simpa using hi)
    refine ⟨w, hw1, hw2, fun j hj => ?_⟩
    rw [← hw3 j hj, List.getElem?_append_right (by simp [h2, Nat.add_mul]; omega)]
    congr 1
    simp [h2, Nat.add_mul]; omega

theorem lget_eq {l : List SV} {i : Nat} (h : i < l.length) : lget l i = l[i] := by
  induction l generalizing i with
  | nil => simp at h
  | cons x l ih => cases i with
    | zero => rfl
    | succ i => simpa [lget] using ih (by simpa using h)
theorem lset_eq (l : List SV) (i : Nat) (y : SV) : lset l i y = l.set i y := by
  induction l generalizing i with
  | nil => rfl
  | cons x l ih => cases i <;> simp [lset, ih]
theorem DenE.set {β : Bnd} {H : Hp} {s : Nat} : ∀ {l : List SV} {vs : List Value} {i : Nat} {y : SV} {v : Value}, DenE β H s l vs → i < l.length → Den β H y v → v.cells.size = s →
    ∃ vs', DenE β H s (lset l i y) vs' ∧ vs'.length = vs.length ∧ ∀ q, vs'[q]? = if i * s ≤ q ∧ q < i * s + s then v.cells[q - i * s]? else vs[q]?
  | x :: l, vs, 0, y, v, h, _, hy, hs => by
    simp only [DenE] at h
    obtain ⟨u, r, rfl, h2, h3, h4⟩ := h
    refine ⟨v.cells.toList ++ r, by simp only [lset, DenE]; exact ⟨v, r, rfl, hs, hy, h4⟩, by simp [hs, h2], fun q => ?_⟩
    by_cases hq : q < s
    · rw [List.getElem?_append_left (by simpa [hs] using hq), if_pos (by omega)]; simp
    · rw [List.getElem?_append_right (by simp [hs]; omega), if_neg (by omega), List.getElem?_append_right (by simp [h2]; omega)]; simp [hs, h2]
  | x :: l, vs, i + 1, y, v, h, hi, hy, hs => by
    simp only [DenE] at h
    obtain ⟨u, r, rfl, h2, h3, h4⟩ := h
    obtain ⟨vs', hw1, hw2, hw3⟩ := DenE.set (i := i) h4 (by simpa using hi) hy hs
    refine ⟨u.cells.toList ++ vs', by simp only [lset, DenE]; exact ⟨u, vs', rfl, h2, h3, hw1⟩, by simp [hw2], fun q => ?_⟩
    by_cases hq : q < s
    · rw [List.getElem?_append_left (by simpa [h2] using hq), if_neg (by simp [Nat.add_mul]; omega), List.getElem?_append_left (by simpa [h2] using hq)]
    · rw [List.getElem?_append_right (by simp [h2]; omega), List.getElem?_append_right (by simp [h2]; omega), hw3]
      simp only [Array.length_toList, h2, Nat.add_mul, Nat.one_mul]
      have e : (i * s ≤ q - s ∧ q - s < i * s + s) ↔ (i * s + s ≤ q ∧ q < i * s + s + s) := by omega
      simp only [e]
      have : q - s - i * s = q - (i * s + s) := by omega
      rw [this]

theorem DenE.append {β : Bnd} {H : Hp} {s : Nat} : ∀ {l l' : List SV} {vs vs' : List Value}, DenE β H s l vs → DenE β H s l' vs' → DenE β H s (l ++ l') (vs ++ vs')
  | [], l', vs, vs', h, h' => by simp only [DenE] at h; simpa [h] using h'
  | x :: l, l', vs, vs', h, h' => by
    simp only [DenE, List.cons_append] at h ⊢
    obtain ⟨v, r, rfl, h2, h3, h4⟩ := h
    exact ⟨v, r ++ vs', by simp, h2, h3, h4.append h'⟩
theorem DenE.take {β : Bnd} {H : Hp} {s : Nat} : ∀ {l : List SV} {vs : List Value} (n : Nat), DenE β H s l vs → DenE β H s (l.take n) (vs.take (n * s))
  | [], vs, n, h => by simp only [DenE] at h; simp [h, DenE]
  | x :: l, vs, 0, h => by simp [DenE]
  | x :: l, vs, n + 1, h => by
    simp only [DenE, List.take_succ_cons] at h ⊢
    obtain ⟨v, r, rfl, h2, h3, h4⟩ := h
    refine ⟨v, r.take (n * s), ?_, h2, h3, h4.take n⟩
    rw [Nat.add_mul, Nat.one_mul, List.take_append, List.take_of_length_le (by simp [h2])]
    simp [h2]
theorem DenE.drop {β : Bnd} {H : Hp} {s : Nat} : ∀ {l : List SV} {vs : List Value} (n : Nat), DenE β H s l vs → DenE β H s (l.drop n) (vs.drop (n * s))
  | [], vs, n, h => by simp only [DenE] at h; simp [h, DenE]
  | x :: l, vs, 0, h => by simpa using h
  | x :: l, vs, n + 1, h => by
    simp only [DenE, List.drop_succ_cons] at h ⊢
    obtain ⟨v, r, rfl, h2, h3, h4⟩ := h
    have := h4.drop n
    have e : (v.cells.toList ++ r).drop ((n + 1) * s) = r.drop (n * s) := by
      have e0 : v.cells.toList.drop ((n + 1) * s) = [] := List.drop_eq_nil_of_le (by rw [Array.length_toList, h2, Nat.add_mul]; omega)
      rw [List.drop_append, e0]
      simp [h2, Nat.add_mul]
    rw [e]; exact this
theorem DenE.replicate {β : Bnd} {H : Hp} {s : Nat} {x : SV} {v : Value} (h : Den β H x v) (hs : v.cells.size = s) : ∀ n, DenE β H s (List.replicate n x) (List.replicate n v.cells.toList).flatten
  | 0 => by simp [DenE]
  | n + 1 => by
    simp only [List.replicate_succ, DenE, List.flatten_cons]
    exact ⟨v, _, rfl, hs, h, DenE.replicate h hs n⟩

/-- may it be a map's key? -/
def keyV : Value → Bool
  | .int _ _ | .string _ | .bool _ => true
  | _ => false
/-- a map's entries in the order in which they came: each a key and what stands there -/
def DenK (β : Bnd) (H : Hp) : List SV → List MapEntry → Nat → Prop
  | [], ms, _ => ms = []
  | x :: l, ms, n => ∃ key y m r, x = .tup [.val key, y] ∧ ms = m :: r ∧ m.key = key ∧ keyV key = true ∧ m.born = n ∧ Den β H y m.val ∧ DenK β H l r (n + 1)
theorem DenK.mono {β β' : Bnd} {H H' : Hp} (hH : ∀ b cs, H b = some cs → H' b = some cs) :
    ∀ (l : List SV) (ms : List MapEntry) (n : Nat), (∀ k d, SV.usesL k l = true → β k = some d → β' k = some d) → DenK β H l ms n → DenK β' H' l ms n
  | [], ms, n, _, h => by simpa [DenK] using h
  | x :: l, ms, n, hb, h => by
    simp only [DenK] at h ⊢
    obtain ⟨key, y, m, r, rfl, h2, h3, h4, h5, h6, h7⟩ := h
    exact ⟨key, y, m, r, rfl, h2, h3, h4, h5, Den.mono hH y _ (fun k d hk => hb k d (by simp [SV.usesL, SV.uses, hk])) h6, DenK.mono hH l r _ (fun k d hk => hb k d (by simp [SV.usesL, hk])) h7⟩
theorem DenK.length {β : Bnd} {H : Hp} : ∀ {l : List SV} {ms : List MapEntry} {n : Nat}, DenK β H l ms n → ms.length = l.length
  | [], ms, n, h => by simp [DenK] at h; simp [h]
  | x :: l, ms, n, h => by
    simp only [DenK] at h
    obtain ⟨key, y, m, r, rfl, rfl, h3, h4, h5, h6, h7⟩ := h
    simp [h7.length]
theorem DenK.tups {β : Bnd} {H : Hp} : ∀ {l : List SV} {ms : List MapEntry} {n : Nat}, DenK β H l ms n → ∀ i, i < l.length → ∃ a, lget l i = .tup a
  | x :: l, ms, n, h, 0, _ => by
    simp only [DenK] at h
    obtain ⟨key, y, m, r, rfl, _⟩ := h
    exact ⟨_, rfl⟩
  | x :: l, ms, n, h, i + 1, hi => by
    simp only [DenK] at h
    obtain ⟨key, y, m, r, rfl, rfl, h3, h4, h5, h6, h7⟩ := h
    exact h7.tups i (by simpa using hi)

end Go.Sv

