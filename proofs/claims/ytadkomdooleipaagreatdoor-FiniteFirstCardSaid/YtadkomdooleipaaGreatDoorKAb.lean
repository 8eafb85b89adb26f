/- Matching along chains, as a plain law: values are given to places one by one; where no chain is found there are no values that all differ. A text of the prover's own; it names no program. -/
import Derived.Test.YtadkomdooleipaaGreatDoorKPl
namespace Go.Fn
open Go
/-! lists without repetition -/
theorem nd_le : ∀ {l m : List Int}, l.Nodup → (∀ x ∈ l, x ∈ m) → l.length ≤ m.length
  | [], m, _, _ => by simp
  | x :: l, m, h, hs => by
    obtain ⟨h1, h2⟩ := List.nodup_cons.1 h
    have hx := hs x (by simp)
    have := nd_le (l := l) (m := m.erase x) h2 fun y hy => by
      have hne : y ≠ x := fun e => h1 (e ▸ hy)
      exact (List.mem_erase_of_ne hne).2 (hs y (by simp [hy]))
    rw [List.length_erase_of_mem hx] at this
    have := List.length_pos_of_mem hx
    simp only [List.length_cons]; omega
theorem dedup_ex (l : List Int) : ∃ m : List Int, m.Nodup ∧ ∀ x, x ∈ m ↔ x ∈ l := by
  induction l with
  | nil => exact ⟨[], by simp, fun x => Iff.rfl⟩
  | cons a l ih =>
    obtain ⟨m, h1, h2⟩ := ih
    by_cases ha : a ∈ m
    · exact ⟨m, h1, fun x => by rw [h2, List.mem_cons]; exact ⟨.inr, fun h => h.elim (fun e => e ▸ (h2 a).1 ha) id⟩⟩
    · exact ⟨a :: m, List.nodup_cons.2 ⟨ha, h1⟩, fun x => by simp [h2]⟩
/-- which place holds a value -/
abbrev Ow := Int → Option Nat
def up (ow : Ow) (v : Int) (i : Nat) : Ow := fun w => if w = v then some i else ow w
theorem up_same (ow : Ow) (v : Int) (i : Nat) : up ow v i v = some i := by simp [up]
theorem up_other {ow : Ow} {v w : Int} {i : Nat} (h : w ≠ v) : up ow v i w = ow w := by simp [up, h]
def cntO (U : List Int) (ow : Ow) (x : Nat) : Nat := (U.filter fun v => decide (ow v = some x)).length
theorem cnt_up {U : List Int} (hU : U.Nodup) {ow : Ow} {v : Int} (hv : v ∈ U) (i x : Nat) : cntO U (up ow v i) x + (if ow v = some x then 1 else 0) = cntO U ow x + (if x = i then 1 else 0) := by
  have out : ∀ l : List Int, v ∉ l → (l.filter fun w => decide (up ow v i w = some x)) = l.filter fun w => decide (ow w = some x) := fun l hl => by
    refine List.filter_congr fun w hw => ?_
    simp only [up_other (ow := ow) (i := i) (fun e : w = v => hl (e ▸ hw))]
  unfold cntO
  induction U with
  | nil => cases hv
  | cons a U ih =>
    obtain ⟨h1, h2⟩ := List.nodup_cons.1 hU
    by_cases ha : a = v
    · subst ha
      rw [List.filter_cons, List.filter_cons, out U h1, up_same]
      by_cases e1 : x = i
      · subst e1
        by_cases e2 : ow a = some x <;> simp [e2]
      · have : ¬ i = x := fun e => e1 e.symm
        by_cases e2 : ow a = some x <;> simp [e2, e1, this]
    · have hv' : v ∈ U := by
        rcases List.mem_cons.1 hv with e | e
        · exact absurd e.symm ha
        · exact e
      have := ih h2 hv'
      rw [List.filter_cons, List.filter_cons, up_other ha]
      by_cases e2 : ow a = some x
      · simp only [e2, decide_true, if_true, List.length_cons]; omega
      · simp only [e2, decide_false, Bool.false_eq_true, if_false]; exact this
/-- behind a chain that gave place i a value outside of S -/
structure Suc (U : List Int) (L : Nat → List Int) (S : List Int) (i : Nat) (ow ow' : Ow) : Prop where
  keep : ∀ v ∈ S, ow' v = ow v
  ok : ∀ v x, ow' v = some x → ow v = some x ∨ v ∈ L x
  cnt : ∀ x, cntO U ow' x = cntO U ow x + (if x = i then 1 else 0)
theorem Suc.less {U : List Int} {L : Nat → List Int} {S S' : List Int} {i : Nat} {ow ow' : Ow} (h : Suc U L S' i ow ow') (hs : ∀ v ∈ S, v ∈ S') : Suc U L S i ow ow' := ⟨fun v hv => h.keep v (hs v hv), h.ok, h.cnt⟩
theorem suc_base {U : List Int} (hU : U.Nodup) {L : Nat → List Int} {S : List Int} {i : Nat} {ow : Ow} {v : Int} (hv : v ∈ U) (hL : v ∈ L i) (hS : v ∉ S) (ho : ow v = none) : Suc U L S i ow (up ow v i) where
  keep := fun w hw => up_other fun e => hS (e ▸ hw)
  ok := fun w x h => by
    by_cases e : w = v
    · subst e; rw [up_same] at h; cases h; exact .inr hL
    · rw [up_other e] at h; exact .inl h
  cnt := fun x => by
    have := cnt_up hU (ow := ow) hv i x
    rw [ho] at this
    simpa using this
theorem suc_step {U : List Int} (hU : U.Nodup) {L : Nat → List Int} {S : List Int} {i o : Nat} {ow ow1 : Ow} {v : Int} (hv : v ∈ U) (hL : v ∈ L i) (hS : v ∉ S) (ho : ow v = some o) (h : Suc U L (v :: S) o ow ow1) : Suc U L S i ow (up ow1 v i) where
  keep := fun w hw => by
    have e : w ≠ v := fun e => hS (e ▸ hw)
    rw [up_other e]; exact h.keep w (by simp [hw])
  ok := fun w x hx => by
    by_cases e : w = v
    · subst e; rw [up_same] at hx; cases hx; exact .inr hL
    · rw [up_other e] at hx; exact h.ok w x hx
  cnt := fun x => by
    have a := cnt_up hU (ow := ow1) hv i x
    have b := h.cnt x
    rw [h.keep v (by simp), ho] at a
    by_cases e : x = o
    · subst e; simp at a b; omega
    · have e' : ¬ o = x := fun q => e q.symm
      simp [e, e'] at a b; omega
/-- where no chain was found: what was seen is closed -/
structure Clo (L : Nat → List Int) (ow : Ow) (S S' : List Int) (i : Nat) : Prop where
  sub : ∀ v ∈ S, v ∈ S'
  lst : ∀ v ∈ L i, v ∈ S'
  own : ∀ v ∈ S', v ∉ S → ∃ o, ow v = some o ∧ ∀ w ∈ L o, w ∈ S'
/-- the same, while the values of a list are gone through -/
structure Prt (L : Nat → List Int) (ow : Ow) (S S' : List Int) (D : Int → Prop) : Prop where
  sub : ∀ v ∈ S, v ∈ S'
  lst : ∀ v, D v → v ∈ S'
  own : ∀ v ∈ S', v ∉ S → ∃ o, ow v = some o ∧ ∀ w ∈ L o, w ∈ S'
theorem prt_0 {L : Nat → List Int} {ow : Ow} {S : List Int} {D : Int → Prop} (h : ∀ v, ¬ D v) : Prt L ow S S D := ⟨fun _ h => h, fun v hv => absurd hv (h v), fun v h1 h2 => absurd h1 h2⟩
theorem Prt.skip {L : Nat → List Int} {ow : Ow} {S S' : List Int} {D D' : Int → Prop} (h : Prt L ow S S' D) (hd : ∀ v, D' v → D v ∨ v ∈ S') : Prt L ow S S' D' := ⟨h.sub, fun v hv => (hd v hv).elim (h.lst v) id, h.own⟩
theorem Prt.step {L : Nat → List Int} {ow : Ow} {S S1 S2 : List Int} {D D' : Int → Prop} {v : Int} {o : Nat} (h : Prt L ow S S1 D) (ho : ow v = some o) (hc : Clo L ow (v :: S1) S2 o) (hd : ∀ w, D' w → D w ∨ w = v) : Prt L ow S S2 D' where
  sub := fun w hw => hc.sub w (by simp [h.sub w hw])
  lst := fun w hw => by
    rcases hd w hw with q | rfl
    · exact hc.sub w (by simp [h.lst w q])
    · exact hc.sub w (by simp)
  own := fun w hw hn => by
    by_cases h1 : w ∈ S1
    · obtain ⟨o', q1, q2⟩ := h.own w h1 hn
      exact ⟨o', q1, fun u hu => hc.sub u (by simp [q2 u hu])⟩
    · by_cases e : w = v
      · subst e; exact ⟨o, ho, hc.lst⟩
      · exact hc.own w hw (by simp [e, h1])
theorem Prt.done {L : Nat → List Int} {ow : Ow} {S S' : List Int} {D : Int → Prop} {i : Nat} (h : Prt L ow S S' D) (hd : ∀ v ∈ L i, D v) : Clo L ow S S' i := ⟨h.sub, fun v hv => h.lst v (hd v hv), h.own⟩
/-- the first k places hold a value each -/
structure Mat (U : List Int) (L : Nat → List Int) (k : Nat) (ow : Ow) : Prop where
  ok : ∀ v x, ow v = some x → v ∈ L x ∧ v ∈ U
  cnt : ∀ x, cntO U ow x = if x < k then 1 else 0
/-- values that all differ, one out of each list -/
def Parts (L : Nat → List Int) (n : Nat) : Prop := ∃ f : Nat → Int, (∀ j, j < n → f j ∈ L j) ∧ ∀ j j', j < n → j' < n → f j = f j' → j = j'
section
variable {U : List Int} {L : Nat → List Int} {k : Nat} {ow ow' : Ow}
theorem mat_0 (U : List Int) (L : Nat → List Int) : Mat U L 0 (fun _ => none) := ⟨fun v x h => by simp at h, fun x => by simp [cntO]⟩
theorem Mat.suc (hL : ∀ x, ∀ v ∈ L x, v ∈ U) (h : Mat U L k ow) {S : List Int} (hs : Suc U L S k ow ow') : Mat U L (k + 1) ow' where
  ok := fun v x hx => by
    rcases hs.ok v x hx with q | q
    · exact h.ok v x q
    · exact ⟨q, hL x v q⟩
  cnt := fun x => by
    rw [hs.cnt, h.cnt]
    by_cases e : x = k
    · subst e; simp
    · by_cases e2 : x < k
      · simp [e, e2, show x < k + 1 by omega]
      · simp [e, e2, show ¬ x < k + 1 by omega]
theorem Mat.inj (h : Mat U L k ow) {v w : Int} {x : Nat} (hv : ow v = some x) (hw : ow w = some x) : v = w := by
  rcases Classical.em (v = w) with e | e
  · exact e
  · have := nd_le (l := [v, w]) (m := U.filter fun v => decide (ow v = some x)) (by simp [e]) fun y hy => by
      simp only [List.mem_cons, List.not_mem_nil, or_false] at hy
      rcases hy with rfl | rfl
      · exact List.mem_filter.2 ⟨(h.ok _ x hv).2, by simp [hv]⟩
      · exact List.mem_filter.2 ⟨(h.ok _ x hw).2, by simp [hw]⟩
    have q := h.cnt x
    unfold cntO at q
    simp only [List.length_cons, List.length_nil] at this
    split at q <;> omega
theorem Mat.lt (h : Mat U L k ow) {v : Int} {x : Nat} (hv : ow v = some x) : x < k := by
  have := List.length_pos_of_mem (List.mem_filter.2 ⟨(h.ok _ x hv).2, by simp [hv]⟩ : v ∈ U.filter fun v => decide (ow v = some x))
  have q := h.cnt x
  unfold cntO at q
  split at q
  · assumption
  · omega
theorem Mat.parts (h : Mat U L k ow) : Parts L k := by
  have key : ∀ j, j < k → ∃ v, ow v = some j := fun j hj => by
    have q := h.cnt j
    rw [if_pos hj] at q
    unfold cntO at q
    obtain ⟨v, hv⟩ := List.exists_mem_of_length_pos (l := U.filter fun v => decide (ow v = some j)) (by omega)
    exact ⟨v, by simpa using (List.mem_filter.1 hv).2⟩
  refine ⟨fun j => if hj : j < k then (key j hj).choose else 0, fun j hj => ?_, fun j j' hj hj' e => ?_⟩
  · simp only [hj, dif_pos]
    exact (h.ok _ j (key j hj).choose_spec).1
  · simp only [hj, hj', dif_pos] at e
    have a := (key j hj).choose_spec
    have b := (key j' hj').choose_spec
    rw [e, b] at a
    exact (Option.some.inj a).symm
theorem nodup_mapOn {f : Int → Int} : ∀ {l : List Int}, l.Nodup → (∀ x ∈ l, ∀ y ∈ l, f x = f y → x = y) → (l.map f).Nodup
  | [], _, _ => by simp
  | a :: l, h, hf => by
    obtain ⟨h1, h2⟩ := List.nodup_cons.1 h
    rw [List.map_cons, List.nodup_cons]
    refine ⟨fun hm => ?_, nodup_mapOn h2 fun x hx y hy => hf x (by simp [hx]) y (by simp [hy])⟩
    obtain ⟨b, hb, e⟩ := List.mem_map.1 hm
    exact h1 (hf b (by simp [hb]) a (by simp) e ▸ hb)
theorem Mat.none (h : Mat U L k ow) {n : Nat} (hk : k < n) {S : List Int} (hc : Clo L ow [] S k) : ¬ Parts L n := by
  rintro ⟨f, f1, f2⟩
  obtain ⟨D, d1, d2⟩ := dedup_ex S
  have own : ∀ v ∈ D, ∃ o, ow v = some o ∧ ∀ w ∈ L o, w ∈ D := fun v hv => by
    obtain ⟨o, q1, q2⟩ := hc.own v ((d2 v).1 hv) (by simp)
    exact ⟨o, q1, fun w hw => (d2 w).2 (q2 w hw)⟩
  -- what the owners have under f, and the new place's
  have hg : ∀ v ∈ D, ∃ o, ow v = some o ∧ f ((ow v).getD 0) ∈ D ∧ o < k ∧ (ow v).getD 0 = o := fun v hv => by
    obtain ⟨o, q1, q2⟩ := own v hv
    have := h.lt q1
    refine ⟨o, q1, ?_, this, by rw [q1]; rfl⟩
    rw [q1]
    exact q2 _ (f1 o (by omega))
  have nd : (f k :: D.map fun v => f ((ow v).getD 0)).Nodup := by
    rw [List.nodup_cons]
    refine ⟨fun hm => ?_, nodup_mapOn d1 fun x hx y hy e => ?_⟩
    · obtain ⟨v, hv, e⟩ := List.mem_map.1 hm
      obtain ⟨o, q1, -, q3, q4⟩ := hg v hv
      rw [q4] at e
      have := f2 o k (by omega) hk e
      omega
    · obtain ⟨o, q1, -, q3, q4⟩ := hg x hx
      obtain ⟨o', r1, -, r3, r4⟩ := hg y hy
      rw [q4, r4] at e
      have := f2 o o' (by omega) (by omega) e
      subst this
      exact h.inj q1 r1
  have := nd_le nd (m := D) fun y hy => by
    rcases List.mem_cons.1 hy with rfl | hy
    · exact (d2 _).2 (hc.lst _ (f1 k hk))
    · obtain ⟨v, hv, rfl⟩ := List.mem_map.1 hy
      exact (hg v hv).choose_spec.2.1
  simp at this
  omega
end
theorem Parts.mono {L L' : Nat → List Int} {n : Nat} (h : Parts L n) (hl : ∀ j, j < n → ∀ v ∈ L j, v ∈ L' j) : Parts L' n := by
  obtain ⟨f, f1, f2⟩ := h
  exact ⟨f, fun j hj => hl j hj _ (f1 j hj), f2⟩
theorem Parts.less {L : Nat → List Int} {n m : Nat} (h : Parts L n) (hm : m ≤ n) : Parts L m := by
  obtain ⟨f, f1, f2⟩ := h
  exact ⟨f, fun j hj => f1 j (by omega), fun j j' hj hj' => f2 j j' (by omega) (by omega)⟩
end Go.Fn

