/- Puzzles: lists cut value by value come to what is left in the end; the constraints' own ways of asking what may stand. A text of the prover's own; it names no program. -/
import Derived.Test.YtadkomdooleipaaGreatDoorKAd
namespace Go.Fn
open Go Go.Tb Go.Ut
/-- what is known while a constraint goes through its places: D those that are done -/
structure Sofar (c : Con) (L L' : Lf) (ag : Bool) (D : Nat → Prop) : Prop where
  cut : Cut c L L'
  yes : ag = true → size L' < size L
  no : ag = false → L' = L ∧ ∀ j, D j → ∀ v ∈ lk c L j, May c L j v
theorem sofar_0 (c : Con) (L : Lf) : Sofar c L L false (fun j => j < 0) := ⟨Cut.refl c L, fun h => by simp at h, fun _ => ⟨rfl, fun j hj => by omega⟩⟩
section
variable {n : Nat} {c : Con} {L L' : Lf} {ag : Bool} {D D' : Nat → Prop}
theorem Sofar.asc (h : Sofar c L L' ag D) (hL : AscL L) : AscL L' := h.cut.asc hL
theorem Sofar.len (h : Sofar c L L' ag D) : L'.length = L.length := h.cut.len
theorem Sofar.rule (h : Sofar c L L' ag D) (hd : ∀ j, j < c.vars.length → D j) : Rule c L L' ag := ⟨h.cut, h.yes, fun e => ⟨(h.no e).1, fun i hi => (h.no e).2 i (hd i hi)⟩⟩
theorem Sofar.stop (h : Sofar c L L' ag D) (e : ag = true) : Rule c L L' true := ⟨h.cut, fun _ => h.yes e, fun q => by cases q⟩
theorem Sofar.wid (h : Sofar c L L' ag D) (hd : L' = L → ∀ j, D' j → D j ∨ ∀ v ∈ lk c L j, May c L j v) : Sofar c L L' ag D' := ⟨h.cut, h.yes, fun e => ⟨(h.no e).1, fun j hj v hv => by
  rcases hd (h.no e).1 j hj with q | q
  · exact (h.no e).2 j q v hv
  · exact q v hv⟩⟩
theorem Sofar.keep (h : Sofar c L L' ag D) {k : Nat} (hk : k < L.length) (f : Int → Bool) (hA : ∀ F, AscL F → NE F → FLe F L' → CnsC c F → ∀ v ∈ gt F k, f v = true)
    (hB : L' = L → (∀ v ∈ gt L k, f v = true) → ∀ j, D' j → D j ∨ ∀ v ∈ lk c L j, May c L j v) : Sofar c L (L'.set k ((gt L' k).filter f)) (decide (((gt L' k).filter f).length < (gt L' k).length) || ag) D' := by
  have hk' : k < L'.length := by rw [h.len]; exact hk
  obtain ⟨s1, s2⟩ := size_keep hk' f
  have hc := cut_keep (c := c) hk' f hA
  refine ⟨h.cut.trans hc, fun e => ?_, fun e => ?_⟩
  · simp only [Bool.or_eq_true, decide_eq_true_eq] at e
    have := h.cut.size
    have := hc.size
    rcases e with e | e
    · have := s1 e; omega
    · have := h.yes e; omega
  · simp only [Bool.or_eq_false_iff, decide_eq_false_iff_not] at e
    obtain ⟨t1, t2⟩ := s2 e.1
    obtain ⟨u1, u2⟩ := h.no e.2
    refine ⟨t1.trans u1, fun j hj v hv => ?_⟩
    rw [u1] at t2
    rcases hB u1 t2 j hj with q | q
    · exact u2 j q v hv
    · exact q v hv
/-- a place whose values are asked by what may stand -/
theorem Sofar.may {i : Nat} (hc : ConOK n c) (hn : L.length = n) (hL : AscL L) (h : Sofar c L L' ag (fun j => j < i)) (ne : NE L') (hi : i < c.vars.length) (f : Int → Bool) (hf : ∀ v ∈ lk c L' i, (f v = true ↔ May c L' i v)) :
    Sofar c L (L'.set (gt c.vars i).toNat ((lk c L' i).filter f)) (decide (((lk c L' i).filter f).length < (lk c L' i).length) || ag) (fun j => j < i + 1) := by
  have hk : (gt c.vars i).toNat < L.length := by rw [hn]; exact hc.at hi
  refine h.keep hk f (fun F a b d e v hv => ?_) (fun e hall j hj => ?_)
  · exact (hf v (d.mem _ (by rw [h.len]; exact hk) v hv)).2 (may_mono hc (by rw [h.len, hn]) a (h.asc hL) b d hi (e i hi v hv))
  · by_cases q : j < i
    · exact .inl q
    · have : j = i := by omega
      subst this
      subst e
      exact .inr fun v hv => (hf v hv).1 (hall v hv)
/-- the same, asked by the lists as they were at first -/
theorem Sofar.mayO {i : Nat} (hc : ConOK n c) (hn : L.length = n) (hL : AscL L) (h : Sofar c L L' ag (fun j => j < i)) (hi : i < c.vars.length) (f : Int → Bool) (hf : ∀ v ∈ lk c L i, (f v = true ↔ May c L i v)) :
    Sofar c L (L'.set (gt c.vars i).toNat ((lk c L' i).filter f)) (decide (((lk c L' i).filter f).length < (lk c L' i).length) || ag) (fun j => j < i + 1) := by
  have hk : (gt c.vars i).toNat < L.length := by rw [hn]; exact hc.at hi
  have fl : FLe L' L := ⟨h.len, fun k hk v hv => (h.cut.sub k hk).subset hv⟩
  refine h.keep hk f (fun F a b d e v hv => ?_) (fun e hall j hj => ?_)
  · have d' := d.trans fl
    exact (hf v (d'.mem _ hk v hv)).2 (may_mono hc hn a hL b d' hi (e i hi v hv))
  · by_cases q : j < i
    · exact .inl q
    · have : j = i := by omega
      subst this
      exact .inr fun v hv => (hf v hv).1 (hall v hv)
/-- a place of which nothing is asked -/
theorem Sofar.skip {i : Nat} (h : Sofar c L L' ag (fun j => j < i)) (hm : ∀ v, May c L i v) : Sofar c L L' ag (fun j => j < i + 1) := h.wid fun _ j hj => by
  by_cases q : j < i
  · exact .inl q
  · have : j = i := by omega
    subst this
    exact .inr fun v _ => hm v
end
/-! a round of all constraints -/
structure Round (p : Puz) (L L' : Lf) (ag : Bool) (i : Nat) : Prop where
  len : L'.length = L.length
  sub : ∀ k, k < L.length → (gt L' k).Sublist (gt L k)
  fam : ∀ F, AscL F → NE F → FLe F L → Cns p F → FLe F L'
  yes : ag = true → size L' < size L
  no : ag = false → L' = L ∧ ∀ j, j < i → CnsC (gt p.cons j) L
theorem round_0 (p : Puz) (L : Lf) : Round p L L false 0 := ⟨rfl, fun _ _ => List.Sublist.refl _, fun _ _ _ h _ => h, fun h => by simp at h, fun _ => ⟨rfl, fun j hj => by omega⟩⟩
theorem Round.step {p : Puz} {L L' L2 : Lf} {ag r : Bool} {i : Nat} (h : Round p L L' ag i) (hi : i < p.cons.length) (hr : Rule (gt p.cons i) L' L2 r) : Round p L L2 (r || ag) (i + 1) where
  len := hr.cut.len.trans h.len
  sub := fun k hk => (hr.cut.sub k (by rw [h.len]; exact hk)).trans (h.sub k hk)
  fam := fun F a b d e => hr.cut.fam F a b (h.fam F a b d e) (e _ (gt_mem hi))
  yes := fun e => by
    have s1 := hr.cut.size
    have s2 := (size_le h.len h.sub).1
    simp only [Bool.or_eq_true] at e
    rcases e with e | e
    · have := hr.yes e; omega
    · have := h.yes e; omega
  no := fun e => by
    simp only [Bool.or_eq_false_iff] at e
    obtain ⟨a1, a2⟩ := hr.no e.1
    obtain ⟨b1, b2⟩ := h.no e.2
    refine ⟨a1.trans b1, fun j hj => ?_⟩
    by_cases q : j < i
    · exact b2 j q
    · have : j = i := by omega
      subst this
      rw [b1] at a2; exact a2
/-- lists from which only such values went as no family keeps -/
structure Left (p : Puz) (L L' : Lf) : Prop where
  len : L'.length = L.length
  sub : ∀ k, k < L.length → (gt L' k).Sublist (gt L k)
  fam : ∀ F, AscL F → NE F → FLe F L → Cns p F → FLe F L'
theorem left_0 (p : Puz) (L : Lf) : Left p L L := ⟨rfl, fun _ _ => List.Sublist.refl _, fun _ _ _ h _ => h⟩
theorem Left.round {p : Puz} {L L' L2 : Lf} {ag : Bool} {i : Nat} (h : Left p L L') (k : Round p L' L2 ag i) : Left p L L2 := ⟨k.len.trans h.len, fun j hj => (k.sub j (by rw [h.len]; exact hj)).trans (h.sub j hj), fun F a b d e => k.fam F a b (h.fam F a b d e) e⟩
theorem Left.asc {p : Puz} {L L' : Lf} (h : Left p L L') (ha : AscL L) : AscL L' := asc_sub ha h.len h.sub
theorem Left.yes {p : Puz} {L L' : Lf} {i : Nat} (h : Left p L L') (k : Round p L' L' false i) (hi : i = p.cons.length) (ne : NE L') : Nar p L L' true := ⟨h.len, h.sub, h.fam, fun _ => ⟨ne, fun c hc => by
  obtain ⟨j, hj, rfl⟩ := List.getElem_of_mem hc
  rw [gt_get hj]; exact (k.no rfl).2 j (by omega)⟩, fun e => by cases e⟩
theorem Left.no {p : Puz} {L L' : Lf} (h : Left p L L') (ne : ¬ NE L') : Nar p L L' false := ⟨h.len, h.sub, h.fam, fun e => (by cases e), fun _ => ne⟩
/-- a value that may not stand goes, by itself -/
theorem Left.less {p : Puz} {n : Nat} {L L' : Lf} (h : Left p L L') (hL : AscL L) {c : Con} (hc : ConOK n c) (hm : c ∈ p.cons) (hn : L.length = n) {i : Nat} (hi : i < c.vars.length) {v : Int} (hv : ¬ May c L' i v) :
    Left p L (L'.set (gt c.vars i).toNat ((lk c L' i).filter fun w => decide (w ≠ v))) := by
  have hk : (gt c.vars i).toNat < L'.length := by rw [h.len, hn]; exact hc.at hi
  have hcut := cut_keep (c := c) hk (fun w => decide (w ≠ v)) fun F a b d e w hw => by
    refine decide_eq_true fun q => hv ?_
    subst q
    exact may_mono hc (by rw [h.len, hn]) a (h.asc hL) b d hi (e i hi w hw)
  exact ⟨hcut.len.trans h.len, fun k hk => (hcut.sub k (by rw [h.len]; exact hk)).trans (h.sub k hk), fun F a b d e => hcut.fam F a b (h.fam F a b d e) (e c hm)⟩
/-! the ways of asking -/
/-- rows that may stand -/
def liveB (c : Con) (L : Lf) (r : List Int) : Bool := (List.range c.vars.length).all fun i => decide (gt r i ∈ lk c L i) && (List.range c.vars.length).all fun j => decide (gt c.vars j ≠ gt c.vars i ∨ gt r j = gt r i)
theorem rowM_iff {c : Con} {L : Lf} {i : Nat} {v : Int} : RowM c L i v ↔ ∃ r ∈ c.rows, liveB c L r = true ∧ gt r i = v := by
  simp only [RowM, liveB, List.all_eq_true, List.mem_range, Bool.and_eq_true, decide_eq_true_eq]
  constructor
  · rintro ⟨r, h1, h2, h3⟩
    refine ⟨r, h1, fun k hk => ⟨(h3 k hk).1, fun j hj => ?_⟩, h2⟩
    by_cases e : gt c.vars j = gt c.vars k
    · refine .inr ?_
      rcases Nat.lt_trichotomy j k with q | q | q
      · exact (h3 k hk).2 j q e
      · rw [q]
      · exact ((h3 j hj).2 k q e.symm).symm
    · exact .inl e
  · rintro ⟨r, h1, h2, h3⟩
    exact ⟨r, h1, h3, fun k hk => ⟨(h2 k hk).1, fun t ht e => ((h2 k hk).2 t (by omega)).resolve_left fun q => q e⟩⟩
/-- the moments that the program looks at -/
def momL (c : Con) (L : Lf) (i : Nat) (v : Int) : Nat → List Int
  | 0 => [v]
  | k + 1 => if k ≠ i ∧ v ≤ high (lk c L k) ∧ high (lk c L k) < v + gt c.nums i then momL c L i v k ++ [high (lk c L k)] else momL c L i v k
/-- and those that the document looks at -/
def momD (c : Con) (L : Lf) (i : Nat) (v : Int) : Nat → List Int
  | 0 => [v]
  | k + 1 => if k ≠ i ∧ v < high (lk c L k) ∧ high (lk c L k) < v + gt c.nums i then momD c L i v k ++ [high (lk c L k)] else momD c L i v k
theorem momD_mem {c : Con} {L : Lf} {i : Nat} {v m : Int} : ∀ {n : Nat}, m ∈ momD c L i v n ↔ m = v ∨ ∃ k, k < n ∧ k ≠ i ∧ m = high (lk c L k) ∧ v < m ∧ m < v + gt c.nums i
  | 0 => by simp [momD]
  | n + 1 => by
    have ih := momD_mem (c := c) (L := L) (i := i) (v := v) (m := m) (n := n)
    simp only [momD]
    split
    · rename_i h
      rw [List.mem_append, ih]
      constructor
      · rintro ((rfl | ⟨k, h1, h2⟩) | h1)
        · exact .inl rfl
        · exact .inr ⟨k, by omega, h2⟩
        · simp only [List.mem_cons, List.not_mem_nil, or_false] at h1
          subst h1
          exact .inr ⟨n, by omega, h.1, rfl, h.2.1, h.2.2⟩
      · rintro (rfl | ⟨k, h1, h2, h3, h4⟩)
        · exact .inl (.inl rfl)
        · by_cases e : k = n
          · subst e; exact .inr (by simp [h3])
          · exact .inl (.inr ⟨k, by omega, h2, h3, h4⟩)
    · rename_i h
      rw [ih]
      constructor
      · rintro (rfl | ⟨k, h1, h2⟩)
        · exact .inl rfl
        · exact .inr ⟨k, by omega, h2⟩
      · rintro (rfl | ⟨k, h1, h2, h3, h4⟩)
        · exact .inl rfl
        · by_cases e : k = n
          · subst e; subst h3; exact absurd ⟨h2, h4.1, h4.2⟩ h
          · exact .inr ⟨k, by omega, h2, h3, h4⟩
theorem momL_mem {c : Con} {L : Lf} {i : Nat} {v m : Int} : ∀ {n : Nat}, m ∈ momL c L i v n ↔ m ∈ momD c L i v n
  | 0 => by simp [momL, momD]
  | n + 1 => by
    have ih := momL_mem (c := c) (L := L) (i := i) (v := v) (m := m) (n := n)
    have hv : v ∈ momD c L i v n := momD_mem.2 (.inl rfl)
    simp only [momL, momD]
    by_cases h : n ≠ i ∧ v < high (lk c L n) ∧ high (lk c L n) < v + gt c.nums i
    · rw [if_pos h, if_pos ⟨h.1, by omega, h.2.2⟩, List.mem_append, List.mem_append, ih]
    · rw [if_neg h]
      split
      · rename_i q
        have e : high (lk c L n) = v := by
          rcases Int.lt_or_le v (high (lk c L n)) with w | w
          · exact absurd ⟨q.1, w, q.2.2⟩ h
          · omega
        rw [List.mem_append, ih, e]
        constructor
        · rintro (h | h)
          · exact h
          · simp only [List.mem_cons, List.not_mem_nil, or_false] at h; rw [h]; exact hv
        · exact .inl
      · exact ih
def shrB (c : Con) (L : Lf) (i : Nat) (l : List Int) : Bool := l.all fun m => decide (gt c.uses i + useS c L i m c.vars.length ≤ c.limit)
theorem shrM_D {c : Con} {L : Lf} {i : Nat} {v : Int} (h1 : gt c.nums i ≠ 0) (h2 : gt c.uses i ≠ 0) : shrB c L i (momD c L i v c.vars.length) = true ↔ ShrM c L i v := by
  simp only [shrB, List.all_eq_true, decide_eq_true_eq, ShrM, momD_mem]
  exact ⟨fun h => .inr (.inr fun m hm => h m hm), fun h m hm => (h.resolve_left h1).resolve_left h2 m hm⟩
theorem shrM_L {c : Con} {L : Lf} {i : Nat} {v : Int} (h1 : gt c.nums i ≠ 0) (h2 : gt c.uses i ≠ 0) : shrB c L i (momL c L i v c.vars.length) = true ↔ ShrM c L i v := by
  rw [← shrM_D h1 h2]
  simp only [shrB, List.all_eq_true, momL_mem]
end Go.Fn

