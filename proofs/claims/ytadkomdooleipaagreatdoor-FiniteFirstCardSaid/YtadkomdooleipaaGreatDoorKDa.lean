/- Plain data (numbers, texts, truth values, lists and structs of these) that a call is handed: the symbolic value that tells it, and that it reads the same behind the call. A text of the prover's own; it names no program. -/
import Derived.Test.YtadkomdooleipaaGreatDoorKSv
import Derived.ChangeSame
import Derived.ChangeMaps5
import Derived.Below
import GoSem.ClaimJoined
namespace Go.Sv
open Go Go.ChangeShapes Go.WideShapes

/-- a plain type -/
inductive Pt where
  | int (k : IntKind) | str | bool | sl (e : Pt) | unit | pair (a b : Pt)
def Pt.T : Pt → Type
  | .int _ => Int
  | .str => ByteArray
  | .bool => Bool
  | .sl e => List e.T
  | .unit => Unit
  | .pair a b => a.T × b.T
def Pt.isSt : Pt → Bool
  | .unit => true
  | .pair _ _ => true
  | _ => false
/-- how many cells -/
def Pt.n : Pt → Nat
  | .unit => 0
  | .pair a b => a.n + b.n
  | _ => 1
def svOf (b : Bool) (l : List SV) : SV := if b then .agg l else lget l 0
/-- the cells -/
def Pt.cs : (p : Pt) → p.T → List SV
  | .int k, (x : Int) => [.val (.int k x)]
  | .str, (x : ByteArray) => [.val (.string x)]
  | .bool, (x : Bool) => [.val (.bool x)]
  | .sl e, (x : List e.T) => [.ro (x.map fun y => svOf e.isSt (e.cs y))]
  | .unit, _ => []
  | .pair a b, (x : a.T × b.T) => a.cs x.1 ++ b.cs x.2
def Pt.sv (p : Pt) (x : p.T) : SV := svOf p.isSt (p.cs x)
def Pt.wf : (p : Pt) → p.T → Prop
  | .int k, (x : Int) => (Lit.int k x).wf = true
  | .str, (x : ByteArray) => x.size ≤ reachBytes
  | .bool, _ => True
  | .sl e, (x : List e.T) => x.length ≤ reachBytes ∧ ∀ y ∈ x, e.wf y
  | .unit, _ => True
  | .pair a b, (x : a.T × b.T) => a.wf x.1 ∧ b.wf x.2

/-- how much it is -/
def Pt.bk : (p : Pt) → p.T → Nat
  | .int _, _ => 1
  | .str, (x : ByteArray) => x.size + 1
  | .bool, _ => 1
  | .sl e, (x : List e.T) => (x.map e.bk).sum + 1
  | .unit, _ => 0
  | .pair a b, (x : a.T × b.T) => a.bk x.1 + b.bk x.2
/-- a measure of what a call is handed -/
structure Bk {Hh : Type} (f : DataW Hh → Nat) (g : List (DataW Hh) → Nat) : Prop where
  lit : ∀ l, 1 ≤ f (.lit l)
  str : ∀ b, f (.lit (.string b)) = b.length + 1
  nil : f .nil = 1
  sl : ∀ e r, f (.slice e r) = g e + g r + 1
  agg : ∀ l, f (.agg l) = g l + 1
  g0 : g [] = 0
  g1 : ∀ d r, g (d :: r) = f d + g r
/-- is a type of the program such a one? (Of a struct: its fields, from a place on.) -/
def Pt.fitB (P : Program) : Pt → TypeId → List Field → Nat → Bool
  | .int k, t, _, _ => match P.underlying t with | some (.int k') => decide (k' = k) | _ => false
  | .str, t, _, _ => match P.underlying t with | some .string => true | _ => false
  | .bool, t, _, _ => match P.underlying t with | some .bool => true | _ => false
  | .sl e, t, _, _ => match P.underlying t with
    | some (.slice u) => decide (P.cellsOf u = e.n) && decide (0 < e.n) && decide (0 < P.bytesOf u) && (match P.underlying u with | some (.struct gs) => e.isSt && e.fitB P u gs.toList 0 | _ => !e.isSt && e.fitB P u [] 0)
    | _ => false
  | .unit, _, fs, _ => fs.isEmpty
  | .pair a b, t, fs, o => match fs with
    | [] => false
    | f :: r => decide (f.offset = o) && decide (P.cellsOf f.type = a.n) && (match P.underlying f.type with | some (.struct gs) => a.isSt && a.fitB P f.type gs.toList 0 | _ => !a.isSt && a.fitB P f.type [] 0) && b.isSt && b.fitB P t r (o + a.n)
def Pt.isAt (P : Program) (p : Pt) (t : TypeId) : Bool := (match P.underlying t with | some (.struct gs) => p.isSt && p.fitB P t gs.toList 0 | _ => !p.isSt && p.fitB P t [] 0)
def Pt.fits (P : Program) (p : Pt) (t : TypeId) : Bool := decide (P.cellsOf t = p.n) && p.isAt P t

/-- all blocks of cells -/
def Hall (W : World) : Hp := fun b => match W.heap[b]? with | some (.cells cs _ _) => some cs | _ => none

theorem Pt.cs_len : ∀ (p : Pt) (x : p.T), (p.cs x).length = p.n
  | .int _, _ => rfl
  | .str, _ => rfl
  | .bool, _ => rfl
  | .sl _, _ => rfl
  | .unit, _ => rfl
  | .pair a b, x => by simp only [Pt.cs, Pt.n, List.length_append, Pt.cs_len a, Pt.cs_len b]

theorem lists_of {α : Type} {q : Nat → α → Prop} : ∀ (n : Nat), (∀ i, i < n → ∃ x, q i x) → ∃ l : List α, l.length = n ∧ ∀ i (h : i < l.length), q i l[i]
  | 0, _ => ⟨[], rfl, fun i h => absurd h (Nat.not_lt_zero _)⟩
  | n + 1, h => by
    obtain ⟨l, h1, h2⟩ := lists_of (q := q) n (fun i hi => h i (by omega))
    obtain ⟨x, hx⟩ := h n (by omega)
    refine ⟨l ++ [x], by simp [h1], fun i hi => ?_⟩
    by_cases e : i < l.length
    · rw [List.getElem_append_left e]; exact h2 i e
    · have : i = l.length := by simp at hi; omega
      subst this; simpa [h1] using hx

/-- elements, each by its cells -/
theorem denE_of {β : Bnd} {H : Hp} {s : Nat} {cb : Array Value} : ∀ (es : List SV) (o : Nat), (∀ i (h : i < es.length), ∃ v, Den β H es[i] v ∧ v.cells.size = s ∧ ∀ j, j < s → cb[o + i * s + j]? = v.cells[j]?) →
    ∃ vs, DenE β H s es vs ∧ ∀ q, q < vs.length → cb[o + q]? = vs[q]?
  | [], o, _ => ⟨[], by simp [DenE], fun q hq => absurd hq (Nat.not_lt_zero _)⟩
  | x :: es, o, h => by
    obtain ⟨v, h1, h2, h3⟩ := h 0 (by simp)
    obtain ⟨vs, h4, h5⟩ := denE_of (s := s) (cb := cb) es (o + s) (fun i hi => by
      obtain ⟨v, g1, g2, g3⟩ := h (i + 1) (by simpa using hi)
      refine ⟨v, g1, g2, fun j hj => ?_⟩
      rw [← g3 j hj]; congr 1; rw [Nat.add_mul]; omega)
    refine ⟨v.cells.toList ++ vs, by simp only [DenE]; exact ⟨v, vs, rfl, h2, h1, h4⟩, fun q hq => ?_⟩
    by_cases e : q < s
    · rw [List.getElem?_append_left (by simpa [h2] using e)]
      have := h3 q e
      simpa using this
    · rw [List.getElem?_append_right (by simp [h2]; omega)]
      have := h5 (q - s) (by simp [h2] at hq; omega)
      simp only [Array.length_toList, h2]
      rw [← this]; congr 1; omega

section
variable {Hh : Type} {enc : TypeId × Value → Hh} {P : Program} {W : World} {held : Bool}

theorem cell_at {base : Nat} {a : Addr} {n : Nat} {cs : List Value} (h : W.cells? base a n = some cs) (hn : 0 < n) :
    a.spot = none ∧ ∃ cb T z, W.heap[a.block]? = some (.cells cb T z) ∧ ∀ j, j < n → cb[a.off + j]? = cs[j]? := by
  obtain ⟨_, hl, hc⟩ := World.cells?_some h
  have h0 := hc 0 hn
  simp only [Addr.add, if_true, World.cell?] at h0
  have hs : ∃ v, cs[0]? = some v := ⟨_, List.getElem?_eq_getElem (by omega)⟩
  obtain ⟨v, hv⟩ := hs
  rw [hv] at h0
  split at h0
  · rename_i cb T z hh
    split at h0
    · cases h0
    · rename_i hsp
      refine ⟨by simpa using hsp, cb, T, z, hh, fun j hj => ?_⟩
      have := hc j hj
      rw [← this]
      unfold Addr.add
      by_cases e : j = 0
      · subst e; simp only [if_true, World.cell?, hh]; rw [if_neg hsp]; simp
      · simp only [if_neg e, World.cell?, hh]; simp
  · cases h0

theorem den_of_cells {β : Bnd} {H : Hp} {p : Pt} {x : p.T} {cs : List Value} (h : DenL β H (p.cs x) cs) : ∃ v : Value, v.cells.toList = cs ∧ v.cells.size = p.n ∧ Den β H (p.sv x) v := by
  have hl := h.length
  rw [Pt.cs_len] at hl
  cases hp : p.isSt with
  | true =>
    refine ⟨.agg cs.toArray, by simp [Value.cells], by simp [Value.cells, hl], ?_⟩
    simp only [Pt.sv, svOf, hp, if_true, Den]
    exact ⟨cs, rfl, h⟩
  | false =>
    have hn : p.n = 1 := by cases p <;> simp_all [Pt.isSt, Pt.n]
    rw [hn] at hl
    have hlen : (p.cs x).length = 1 := by rw [Pt.cs_len, hn]
    match hc : p.cs x, cs, hlen, hl with
    | [y], [v], _, _ =>
      rw [hc] at h
      simp only [DenL] at h
      obtain ⟨v', r, e, h1, h2, rfl⟩ := h
      simp only [List.cons.injEq, and_true] at e
      subst e
      have := oneCell_cells (Den.one h2 h1)
      refine ⟨v, by rw [this], by rw [this, hn]; rfl, ?_⟩
      simp only [Pt.sv, svOf, hp, hc, lget]
      exact h2

theorem DenL_append {β : Bnd} {H : Hp} : ∀ {l l' : List SV} {vs vs' : List Value}, DenL β H l vs → DenL β H l' vs' → DenL β H (l ++ l') (vs ++ vs')
  | [], l', vs, vs', h, h' => by simp only [DenL] at h; simpa [h] using h'
  | x :: l, l', vs, vs', h, h' => by
    simp only [DenL] at h
    obtain ⟨v, r, rfl, h1, h2, h3⟩ := h
    simp only [List.cons_append, DenL]
    exact ⟨v, r ++ vs', rfl, h1, h2, DenL_append h3 h'⟩

theorem Bk.sum {f : DataW Hh → Nat} {g : List (DataW Hh) → Nat} (hb : Bk f g) {α : Type} {m : α → Nat} : ∀ {ys : List α} {es : List (DataW Hh × List MemPlace)}, ys.length = es.length → (∀ i (h : i < ys.length) (h' : i < es.length), m ys[i] ≤ f (es[i]).1) → (ys.map m).sum ≤ g (es.map (·.1))
  | [], [], _, _ => by simp [hb.g0]
  | y :: ys, e :: es, hl, h => by
    have h0 := h 0 (by simp) (by simp)
    have hr := Bk.sum hb (m := m) (ys := ys) (es := es) (by simpa using hl) (fun i a b => by have := h (i + 1) (by simp only [List.length_cons]; omega) (by simp only [List.length_cons]; omega); simp only [List.getElem_cons_succ] at this; exact this)
    simp only [List.map_cons, List.sum_cons, hb.g1]
    simp only [List.getElem_cons_zero] at h0
    omega
/-- what a plain type's cells say -/
structure Rd (P : Program) (W : World) (enc : TypeId × Value → Hh) (held : Bool) (p : Pt) : Prop where
  one : p.isSt = false → ∀ (t : TypeId) (fuel : Nat) (cs : List Value) (x : DataW Hh × List MemPlace), p.fitB P t [] 0 = true → DataW.trod enc P W 0 (fun _ => true) held fuel t cs = some x →
    (x.1.weights P t).all (· ≤ reachBytes) = true → ∃ y, p.wf y ∧ DenL noB (Hall W) (p.cs y) cs ∧ ∀ f g, Bk f g → p.bk y ≤ f x.1
  many : p.isSt = true → ∀ (t : TypeId) (fs : List Field) (o fuel : Nat) (cs : List Value) (xs : List (DataW Hh × List MemPlace)), p.fitB P t fs o = true → cs.length = o + p.n → xs.length = fs.length →
    (∀ (i : Nat) (f : Field), fs[i]? = some f → DataW.trod enc P W 0 (fun _ => true) held fuel f.type ((cs.drop f.offset).take (P.cellsOf f.type)) = xs[i]?) →
    (DataW.weightsEach P (fs.map (·.type)) (xs.map (·.1))).all (· ≤ reachBytes) = true → ∃ y, p.wf y ∧ DenL noB (Hall W) (p.cs y) (cs.drop o) ∧ ∀ f g, Bk f g → p.bk y ≤ g (xs.map (·.1))

theorem Rd.here {p : Pt} (h : Rd P W enc held p) {t : TypeId} {fuel : Nat} {cs : List Value} {x : DataW Hh × List MemPlace} (hf : p.isAt P t = true) (hn : P.cellsOf t = p.n) (ht : DataW.trod enc P W 0 (fun _ => true) held fuel t cs = some x)
    (hw : (x.1.weights P t).all (· ≤ reachBytes) = true) : ∃ y, p.wf y ∧ DenL noB (Hall W) (p.cs y) cs ∧ ∀ f g, Bk f g → p.bk y ≤ f x.1 := by
  unfold Pt.isAt at hf
  split at hf
  · rename_i gs hu
    simp only [Bool.and_eq_true] at hf
    obtain ⟨xs, n, rfl, hx, hl, hlen, hall⟩ := DataW.trod_struct hu ht
    subst hx
    obtain ⟨y, q1, q2, q3⟩ := h.many hf.1 t gs.toList 0 n cs xs hf.2 (by rw [hl, hn]; omega) (by simpa using hlen) (fun i f hi => hall i f (by simpa using hi)) (by simpa [DataW.weights, hu] using hw)
    exact ⟨y, q1, by simpa using q2, fun f g hb => by have := q3 f g hb; simp only [hb.agg]; omega⟩
  · simp only [Bool.and_eq_true, Bool.not_eq_true'] at hf
    exact h.one hf.1 t fuel cs x hf.2 ht hw

theorem weightsAll_mem {e : TypeId} : ∀ {l : List (DataW Hh)} {d : DataW Hh}, d ∈ l → (DataW.weightsAll P e l).all (· ≤ reachBytes) = true → (d.weights P e).all (· ≤ reachBytes) = true
  | a :: l, d, h, hw => by
    simp only [DataW.weightsAll, List.all_append, Bool.and_eq_true] at hw
    rcases List.mem_cons.1 h with rfl | h
    · exact hw.1
    · exact weightsAll_mem h hw.2

theorem rd_ok : ∀ p : Pt, Rd P W enc held p
  | .int k => ⟨fun _ t fuel cs x hf ht hw => by
      simp only [Pt.fitB] at hf
      split at hf
      · rename_i k' hu
        simp only [decide_eq_true_eq] at hf
        subst hf
        obtain ⟨n, rfl, rfl, h⟩ := DataW.trod_int hu ht
        exact ⟨n, h, by simp only [Pt.cs, DenL]; exact ⟨_, _, rfl, rfl, by simp [Den, Value.oneCell'], rfl⟩, fun f g hb => hb.lit _⟩
      · (cases hf), fun h => by cases h⟩
  | .str => ⟨fun _ t fuel cs x hf ht hw => by
      simp only [Pt.fitB] at hf
      split at hf
      · rename_i hu
        obtain ⟨s, rfl, rfl, h⟩ := DataW.trod_string hu ht
        simp only [DataW.weights, List.all_cons, List.all_nil, Bool.and_true, decide_eq_true_eq] at hw
        exact ⟨s, by simpa [Pt.wf] using hw, by simp only [Pt.cs, DenL]; exact ⟨_, _, rfl, rfl, by simp [Den, Value.oneCell'], rfl⟩, fun f g hb => by rw [hb.str]; exact Nat.le_refl _⟩
      · (cases hf), fun h => by cases h⟩
  | .bool => ⟨fun _ t fuel cs x hf ht hw => by
      simp only [Pt.fitB] at hf
      split at hf
      · rename_i hu
        obtain ⟨b, rfl, rfl⟩ := DataW.trod_bool hu ht
        exact ⟨b, trivial, by simp only [Pt.cs, DenL]; exact ⟨_, _, rfl, rfl, by simp [Den, Value.oneCell'], rfl⟩, fun f g hb => hb.lit _⟩
      · (cases hf), fun h => by cases h⟩
  | .unit => ⟨fun h => (by cases h), fun _ t fs o fuel cs xs hf hl hx hall hw => by
      refine ⟨(), trivial, ?_, fun f g hb => Nat.zero_le _⟩
      simp only [Pt.cs, DenL]
      rw [List.drop_eq_nil_of_le (by simp [Pt.n] at hl; omega)]⟩
  | .pair a b => ⟨fun h => (by cases h), fun _ t fs o fuel cs xs hf hl hx hall hw => by
      simp only [Pt.fitB] at hf
      split at hf
      · cases hf
      · rename_i f r
        simp only [Bool.and_eq_true, decide_eq_true_eq] at hf
        obtain ⟨⟨⟨⟨h1, h2⟩, h3⟩, hb⟩, h4⟩ := hf
        match xs, hx with
        | x0 :: xr, hx =>
        have hw' : (x0.1.weights P f.type).all (· ≤ reachBytes) = true ∧ (DataW.weightsEach P (r.map (·.type)) (xr.map (·.1))).all (· ≤ reachBytes) = true := by
          simpa only [List.map_cons, DataW.weightsEach, List.all_append, Bool.and_eq_true] using hw
        simp only [Pt.n] at hl
        obtain ⟨y, wy, dy, ky⟩ := (rd_ok a).here (t := f.type) (by unfold Pt.isAt; exact h3) h2 (by simpa using hall 0 f rfl) hw'.1
        have hr := (rd_ok b)
        have key : ∃ z, b.wf z ∧ DenL noB (Hall W) (b.cs z) (cs.drop (o + a.n)) ∧ ∀ f g, Bk f g → b.bk z ≤ g (xr.map (·.1)) := by
          exact hr.many hb t r (o + a.n) fuel cs xr h4 (by omega) (by simpa using hx) (fun i f hi => by simpa using hall (i + 1) f (by simpa using hi)) hw'.2
        obtain ⟨z, wz, dz, kz⟩ := key
        refine ⟨(y, z), ⟨wy, wz⟩, ?_, fun f g hb => by have := ky f g hb; have := kz f g hb; simp only [Pt.bk, List.map_cons, hb.g1]; omega⟩
        simp only [Pt.cs]
        have := DenL_append dy dz
        rw [h1, h2] at this
        rwa [← List.drop_drop, List.take_append_drop] at this⟩
  | .sl e => ⟨fun _ t fuel cs x hf ht hw => by
      simp only [Pt.fitB] at hf
      split at hf
      · rename_i u hu
        simp only [Bool.and_eq_true, decide_eq_true_eq] at hf
        obtain ⟨⟨⟨h1, h2⟩, h3⟩, h4⟩ := hf
        rcases DataW.trod_slice hu ht with ⟨rfl, rfl⟩ | ⟨ad, len, cap, elems, rest, n, rfl, rfl, rfl, hb, hle, hm, hlen, hel, hsp, hns⟩
        · refine ⟨([] : List e.T), ⟨by simp, by simp⟩, ?_, fun f g hb => by simp [Pt.bk, hb.nil]⟩
          simp only [Pt.cs, List.map_nil, DenL]
          exact ⟨_, _, rfl, rfl, by simp only [Den]; exact .inl ⟨trivial, _, _, rfl⟩, rfl⟩
        · simp only [DataW.weights, hu, List.all_cons, List.all_append, Bool.and_eq_true, decide_eq_true_eq, List.length_map] at hw
          obtain ⟨w1, w2, w3⟩ := hw
          have el : ∀ i, i < len → ∃ (cs' : List Value) (z : DataW Hh × List MemPlace), W.cells? 0 (ad.add (i * P.cellsOf u)) (P.cellsOf u) = some cs' ∧ DataW.trod enc P W 0 (fun _ => true) held n u cs' = some z ∧ elems[i]? = some z := fun i hi => by
            have := hel i hi
            rw [List.getElem?_eq_getElem (by omega)] at this
            obtain ⟨cs', g1, g2⟩ := Option.bind_eq_some_iff.1 this
            exact ⟨cs', _, g1, g2, List.getElem?_eq_getElem (by omega)⟩
          obtain ⟨ys, hys, hy⟩ := lists_of (q := fun i y => e.wf y ∧ (∀ h : i < elems.length, ∀ f g, Bk f g → e.bk y ≤ f (elems[i]).1) ∧ ∃ cs', W.cells? 0 (ad.add (i * P.cellsOf u)) (P.cellsOf u) = some cs' ∧ DenL noB (Hall W) (e.cs y) cs') len (fun i hi => by
            obtain ⟨cs', z, g1, g2, g3⟩ := el i hi
            obtain ⟨y, q1, q2, q3⟩ := (rd_ok e).here (t := u) (by unfold Pt.isAt; exact h4) h1 g2 (weightsAll_mem (l := elems.map (·.1)) (List.mem_map.2 ⟨z, List.mem_of_getElem? g3, rfl⟩) w2)
            exact ⟨y, q1, fun h f g hb => by have := q3 f g hb; rw [List.getElem?_eq_getElem h] at g3; rw [Option.some.inj g3]; exact this, cs', g1, q2⟩)
          have hlr : len ≤ reachBytes := by
            have := Nat.le_mul_of_pos_right (elems.length + rest.length) h3
            omega
          refine ⟨(ys : List e.T), ⟨by rw [hys]; exact hlr, fun y hy' => ?_⟩, ?_, fun f g hb => ?_⟩
          · obtain ⟨i, hi, rfl⟩ := List.getElem_of_mem hy'
            exact (hy i hi).1
          · simp only [Pt.cs, DenL]
            refine ⟨_, _, rfl, rfl, ?_, rfl⟩
            simp only [Den]
            rcases Nat.eq_zero_or_pos len with rfl | hpos
            · left; exact ⟨by simp [List.length_eq_zero_iff.1 hys], _, _, rfl⟩
            · right
              obtain ⟨_, _, cs0, g0, _⟩ := hy 0 (by omega)
              rw [Nat.zero_mul] at g0
              have ha0 : ad.add 0 = ad := by simp [Addr.add]
              rw [ha0] at g0
              obtain ⟨hsp0, cb, T, z, hh, _⟩ := cell_at g0 (by omega)
              obtain ⟨vs, d1, d2⟩ := denE_of (β := noB) (H := Hall W) (s := e.n) (cb := cb) (ys.map fun y => svOf e.isSt (e.cs y)) ad.off (fun i hi => by
                simp only [List.length_map] at hi
                obtain ⟨_, _, cs', g1, g2⟩ := hy i hi
                obtain ⟨v, q1, q2, q3⟩ := den_of_cells g2
                obtain ⟨_, cb', T', z', hh', hc'⟩ := cell_at g1 (by omega)
                have hbk : (ad.add (i * P.cellsOf u)).block = ad.block := by unfold Addr.add; split <;> rfl
                have hof : (ad.add (i * P.cellsOf u)).off = ad.off + i * P.cellsOf u := by unfold Addr.add; split <;> simp_all
                rw [hbk, hh] at hh'
                simp only [Option.some.injEq, Obj.cells.injEq] at hh'
                obtain ⟨rfl, -, -⟩ := hh'
                refine ⟨v, by rw [List.getElem_map]; exact q3, q2, fun j hj => ?_⟩
                rw [hof, h1] at hc'
                rw [hc' j hj, ← q1]; simp)
              refine ⟨ad.block, ad.off, cap, e.n, cb, vs, ?_, by simp [hys, hle], by simp [Hall, hh], d1, d2⟩
              simp only [List.length_map, hys]
              obtain ⟨bb, oo, ss⟩ := ad
              simp only at hsp0
              subst hsp0
              rfl
          · have := hb.sum (m := e.bk) (ys := ys) (es := elems) (by omega) (fun i h h' => (hy i h).2.1 h' f g hb)
            simp only [Pt.bk, hb.sl]
            omega
      · (cases hf), fun h => by cases h⟩

theorem Pt.openK {p : Pt} {t : TypeId} {v : Value} {d : DataW Hh} {ps : List MemPlace} {base : Nat} {r : Reach} (hf : p.fits P t = true) (hval : Value.okWide P W r base t v) (ht : DataW.Trod enc P W 0 (fun _ => true) held t v d ps)
    (hw : (d.weights P t).all (· ≤ reachBytes) = true) : ∃ y, p.wf y ∧ Den noB (Hall W) (p.sv y) v ∧ ∀ f g, Bk f g → p.bk y ≤ f d := by
  simp only [Pt.fits, Bool.and_eq_true, decide_eq_true_eq] at hf
  obtain ⟨fuel, ht⟩ := ht
  obtain ⟨y, wy, dy, ky⟩ := (rd_ok (P := P) (W := W) (enc := enc) (held := held) p).here hf.2 hf.1 ht hw
  refine ⟨y, wy, ?_, ky⟩
  have hat := hf.2
  unfold Pt.isAt at hat
  split at hat
  · rename_i gs hu
    simp only [Bool.and_eq_true] at hat
    unfold Value.okWide at hval
    rw [hu] at hval
    obtain ⟨cs, rfl, -, -⟩ := hval
    simp only [Pt.sv, svOf, hat.1, if_true, Den]
    exact ⟨_, by simp [Value.cells], dy⟩
  · rename_i hns
    simp only [Bool.and_eq_true, Bool.not_eq_true'] at hat
    obtain ⟨v', h1, h2, h3⟩ := den_of_cells dy
    have hv : v.cells = #[v] := by
      cases v <;> try rfl
      · rename_i cs
        exfalso
        cases p <;> simp only [Pt.isSt, Pt.fitB] at hat
        all_goals first | (cases hat.1; done) | skip
        all_goals
          have hat2 := hat.2
          split at hat2
          · rename_i hu
            unfold Value.okWide at hval
            rw [hu] at hval
            simp [Cell.okWide, Cell.ok, hu] at hval
          · cases hat2
    have hv' : v' = v := by
      have e := congrArg List.toArray h1
      simp only [Array.toArray_toList] at e
      rw [hv] at e
      have hone : (p.sv y).one = true := by
        cases p <;> simp_all [Pt.isSt, Pt.sv, svOf, Pt.cs, lget, SV.one, Value.oneCell']
      rw [oneCell_cells (Den.one h3 hone)] at e
      simpa using e
    rw [← hv']; exact h3
theorem Pt.openV {p : Pt} {t : TypeId} {v : Value} {d : DataW Hh} {ps : List MemPlace} {base : Nat} {r : Reach} (hf : p.fits P t = true) (hval : Value.okWide P W r base t v) (ht : DataW.Trod enc P W 0 (fun _ => true) held t v d ps)
    (hw : (d.weights P t).all (· ≤ reachBytes) = true) : ∃ y, p.wf y ∧ Den noB (Hall W) (p.sv y) v := by
  obtain ⟨y, h1, h2, -⟩ := Pt.openK hf hval ht hw
  exact ⟨y, h1, h2⟩

theorem mapM_of_get {α β : Type} {g : α → Option β} : ∀ {l : List α} {xs : List β}, xs.length = l.length → (∀ (i : Nat) (f : α), l[i]? = some f → g f = xs[i]?) → l.mapM g = some xs
  | [], [], _, _ => by simp
  | [], _ :: _, h, _ => by simp at h
  | _ :: _, [], h, _ => by simp at h
  | a :: l, x :: xs, h, hg => by
    have h0 := hg 0 a rfl
    have hr := mapM_of_get (g := g) (l := l) (xs := xs) (by simpa using h) (fun i f hi => by simpa using hg (i + 1) f (by simpa using hi))
    simp only [List.getElem?_cons_zero] at h0
    simp [List.mapM_cons, h0, hr]

/-- plain data reads the same in another world, where its places are the same -/
structure Rs (P : Program) (W W' : World) (enc : TypeId × Value → Hh) (held : Bool) (sp : Nat → Bool) (p : Pt) : Prop where
  one : p.isSt = false → ∀ (t : TypeId) (fuel : Nat) (cs : List Value) (x : DataW Hh × List MemPlace), p.fitB P t [] 0 = true → DataW.trod enc P W 0 (fun _ => true) held fuel t cs = some x →
    (∀ q ∈ x.2, sp q.block = true ∧ W.sameAt W' q) → DataW.trod enc P W' 0 sp held fuel t cs = some x
  many : p.isSt = true → ∀ (t : TypeId) (fs : List Field) (o fuel : Nat) (cs : List Value) (xs : List (DataW Hh × List MemPlace)), p.fitB P t fs o = true → xs.length = fs.length →
    (∀ (i : Nat) (f : Field), fs[i]? = some f → DataW.trod enc P W 0 (fun _ => true) held fuel f.type ((cs.drop f.offset).take (P.cellsOf f.type)) = xs[i]?) →
    (∀ q ∈ xs.flatMap (·.2), sp q.block = true ∧ W.sameAt W' q) →
    ∀ (i : Nat) (f : Field), fs[i]? = some f → DataW.trod enc P W' 0 sp held fuel f.type ((cs.drop f.offset).take (P.cellsOf f.type)) = xs[i]?

theorem Rs.here {W' : World} {sp : Nat → Bool} {p : Pt} (h : Rs P W W' enc held sp p) {t : TypeId} {fuel : Nat} {cs : List Value} {x : DataW Hh × List MemPlace} (hf : p.isAt P t = true) (ht : DataW.trod enc P W 0 (fun _ => true) held fuel t cs = some x)
    (hs : ∀ q ∈ x.2, sp q.block = true ∧ W.sameAt W' q) : DataW.trod enc P W' 0 sp held fuel t cs = some x := by
  unfold Pt.isAt at hf
  split at hf
  · rename_i gs hu
    simp only [Bool.and_eq_true] at hf
    obtain ⟨xs, n, rfl, hx, hl, hlen, hall⟩ := DataW.trod_struct hu ht
    subst hx
    have := h.many hf.1 t gs.toList 0 n cs xs hf.2 (by simpa using hlen) (fun i f hi => hall i f (by simpa using hi)) hs
    exact trod_struct_mk hu hl (mapM_of_get (by simpa using hlen) (fun i f hi => this i f hi))
  · simp only [Bool.and_eq_true, Bool.not_eq_true'] at hf
    exact h.one hf.1 t fuel cs x hf.2 ht hs

theorem rs_ok {W' : World} {sp : Nat → Bool} : ∀ p : Pt, Rs P W W' enc held sp p
  | .int k => ⟨fun _ t fuel cs x hf ht hs => by
      simp only [Pt.fitB] at hf
      split at hf
      · rename_i k' hu
        obtain ⟨n, rfl, rfl, h⟩ := DataW.trod_int hu ht
        cases fuel with
        | zero => simp [DataW.trod] at ht
        | succ m => exact trod_int_mk m hu h
      · (cases hf), fun h => by cases h⟩
  | .str => ⟨fun _ t fuel cs x hf ht hs => by
      simp only [Pt.fitB] at hf
      split at hf
      · rename_i hu
        obtain ⟨s, rfl, rfl, h⟩ := DataW.trod_string hu ht
        cases fuel with
        | zero => simp [DataW.trod] at ht
        | succ m => rw [DataW.trod_step]; unfold DataW.trodStep; simp [hu, h]
      · (cases hf), fun h => by cases h⟩
  | .bool => ⟨fun _ t fuel cs x hf ht hs => by
      simp only [Pt.fitB] at hf
      split at hf
      · rename_i hu
        obtain ⟨b, rfl, rfl⟩ := DataW.trod_bool hu ht
        cases fuel with
        | zero => simp [DataW.trod] at ht
        | succ m => rw [DataW.trod_step]; unfold DataW.trodStep; simp [hu]
      · (cases hf), fun h => by cases h⟩
  | .unit => ⟨fun h => (by cases h), fun _ t fs o fuel cs xs hf hx hall hs i f hi => by
      simp only [Pt.fitB, List.isEmpty_iff] at hf
      subst hf
      simp at hi⟩
  | .pair a b => ⟨fun h => (by cases h), fun _ t fs o fuel cs xs hf hx hall hs i f hi => by
      simp only [Pt.fitB] at hf
      split at hf
      · cases hf
      · rename_i f0 r
        simp only [Bool.and_eq_true, decide_eq_true_eq] at hf
        obtain ⟨⟨⟨⟨h1, h2⟩, h3⟩, hb⟩, h4⟩ := hf
        match xs, hx with
        | x0 :: xr, hx =>
        cases i with
        | zero =>
          simp only [List.getElem?_cons_zero, Option.some.injEq] at hi ⊢
          subst hi
          exact (rs_ok a).here (by unfold Pt.isAt; exact h3) (by simpa using hall 0 f0 rfl) (fun q hq => hs q (by simp [hq]))
        | succ i =>
          simp only [List.getElem?_cons_succ] at hi ⊢
          exact (rs_ok b).many hb t r (o + a.n) fuel cs xr h4 (by simpa using hx) (fun i f hi => by simpa using hall (i + 1) f (by simpa using hi)) (fun q hq => hs q (by simp only [List.flatMap_cons, List.mem_append]; exact .inr hq)) i f hi⟩
  | .sl e => ⟨fun _ t fuel cs x hf ht hs => by
      simp only [Pt.fitB] at hf
      split at hf
      · rename_i u hu
        simp only [Bool.and_eq_true, decide_eq_true_eq] at hf
        obtain ⟨⟨⟨h1, h2⟩, h3⟩, h4⟩ := hf
        rcases DataW.trod_slice hu ht with ⟨rfl, rfl⟩ | ⟨ad, len, cap, elems, rest, n, rfl, rfl, rfl, hb, hle, hm, hlen, hel, hsp, hns⟩
        · cases fuel with
          | zero => simp [DataW.trod] at ht
          | succ m => rw [DataW.trod_step]; unfold DataW.trodStep; simp [hu]
        · obtain ⟨hrl, hre⟩ := hsp rfl
          have hbk : ∀ i, (ad.add i).block = ad.block := fun i => by unfold Addr.add; split <;> rfl
          have hof : ∀ i, (ad.add i).off = ad.off + i := fun i => by unfold Addr.add; split <;> simp_all
          have one : ∀ i (z : DataW Hh × List MemPlace), i < elems.length + rest.length → z ∈ elems ++ rest → (W.cells? 0 (ad.add (i * P.cellsOf u)) (P.cellsOf u)).bind (DataW.trod enc P W 0 (fun _ => true) held n u) = some z →
              (W'.cells? 0 (ad.add (i * P.cellsOf u)) (P.cellsOf u)).bind (DataW.trod enc P W' 0 sp held n u) = some z := fun i z hi hz h => by
            obtain ⟨cs', g1, g2⟩ := Option.bind_eq_some_iff.1 h
            have g1' := World.cells?_carry (w' := W') g1 (fun q hq => by
              obtain ⟨j, hj, rfl⟩ := MemPlace.mem_row.1 hq
              refine (hs _ (List.mem_append_left _ (MemPlace.mem_row.2 ⟨i * P.cellsOf u + j, ?_, by rw [hbk, hof, Nat.add_assoc]⟩))).2
              have := Nat.mul_le_mul_right (P.cellsOf u) (show i + 1 ≤ elems.length + rest.length from hi)
              rw [Nat.add_mul, Nat.one_mul] at this
              omega)
            rw [g1']
            exact (rs_ok e).here (by unfold Pt.isAt; exact h4) g2 (fun q hq => hs q (List.mem_append_right _ (List.mem_flatMap.2 ⟨z, hz, hq⟩)))
          have hA : (List.range len).mapM (fun i => (W'.cells? 0 (ad.add (i * P.cellsOf u)) (P.cellsOf u)).bind (DataW.trod enc P W' 0 sp held n u)) = some elems := by
            refine mapM_of_get (by simp [hlen]) (fun i k hi => ?_)
            have hlt : i < len := by
              have := (List.getElem?_eq_some_iff.1 hi).1
              simpa using this
            rw [List.getElem?_range hlt] at hi
            simp only [Option.some.injEq] at hi
            subst hi
            have he := hel i hlt
            rw [List.getElem?_eq_getElem (by omega)] at he ⊢
            exact one i _ (by omega) (by simp) he
          have hB : (if sp ad.block then (List.range (cap - len)).mapM (fun j => (W'.cells? 0 (ad.add ((len + j) * P.cellsOf u)) (P.cellsOf u)).bind (DataW.trod enc P W' 0 sp held n u)) else some []) = some rest := by
            split
            · refine mapM_of_get (by simp [hrl]) (fun i k hi => ?_)
              have hlt : i < cap - len := by
                have := (List.getElem?_eq_some_iff.1 hi).1
                simpa using this
              rw [List.getElem?_range hlt] at hi
              simp only [Option.some.injEq] at hi
              subst hi
              have he := hre i hlt
              rw [List.getElem?_eq_getElem (by omega)] at he ⊢
              exact one (len + i) _ (by omega) (by simp) he
            · rename_i hno
              rcases Nat.eq_zero_or_pos (elems.length + rest.length) with h0 | h0
              · have : rest.length = 0 := by omega
                rw [List.length_eq_zero_iff.1 this]
              · exfalso
                refine hno (hs _ (List.mem_append_left _ (MemPlace.mem_row.2 ⟨0, Nat.mul_pos h0 (by omega), rfl⟩))).1
          rw [DataW.trod_step]
          unfold DataW.trodStep
          simp only [hu]
          rw [if_pos ⟨hb, hle, hm⟩, hA]
          simp only [Option.bind_some]
          rw [hB]
          rfl
      · (cases hf), fun h => by cases h⟩

theorem below_sameAt {W W' : World} (h : Go.RowKit.Below W.heap.size W W') {q : MemPlace} (hq : q.block < W.heap.size) : W.sameAt W' q := by
  cases q with
  | cell b off => simp only [World.sameAt, World.cell?]; rw [h.block b hq]
  | map b => simp only [World.sameAt]; exact h.block b hq

theorem fits_carry {W' : World} {sp : Nat → Bool} {p : Pt} {t : TypeId} {v : Value} {d : DataW Hh} {ps : List MemPlace} (hf : p.fits P t = true) (h : DataW.Trod enc P W 0 (fun _ => true) held t v d ps) (hs : ∀ q ∈ ps, sp q.block = true ∧ W.sameAt W' q) :
    DataW.Trod enc P W' 0 sp held t v d ps := by
  simp only [Pt.fits, Bool.and_eq_true, decide_eq_true_eq] at hf
  obtain ⟨fuel, h⟩ := h
  exact ⟨fuel, (rs_ok p).here hf.2 h hs⟩
theorem fits_carryAll {W' : World} {sp : Nat → Bool} : ∀ {pts : List Pt} {ts : List TypeId} {vs : List Value} {ds : List (DataW Hh)} {ps : List MemPlace}, pts.length = ts.length → (∀ (i : Nat) (p : Pt) (t : TypeId), pts[i]? = some p → ts[i]? = some t → p.fits P t = true) →
    DataW.TrodAll enc P W 0 (fun _ => true) held ts vs ds ps → (∀ q ∈ ps, sp q.block = true ∧ W.sameAt W' q) → DataW.TrodAll enc P W' 0 sp held ts vs ds ps
  | pts, [], vs, ds, ps, hl, hf, h, hs => by
    obtain ⟨rfl, rfl, rfl⟩ := trodAll_nil h
    exact trodAll_mk0
  | p :: pts, t :: ts, vs, ds, ps, hl, hf, h, hs => by
    obtain ⟨v, r, d, e, p1, p2, rfl, rfl, rfl, h1, h2⟩ := trodAll_cons h
    exact ⟨p1, p2, fits_carry (hf 0 p t rfl rfl) h1 (fun q hq => hs q (by simp [hq])), fits_carryAll (by simpa using hl) (fun i p t h1 h2 => hf (i + 1) p t (by simpa using h1) (by simpa using h2)) h2 (fun q hq => hs q (by simp [hq])), rfl⟩
end
end Go.Sv

