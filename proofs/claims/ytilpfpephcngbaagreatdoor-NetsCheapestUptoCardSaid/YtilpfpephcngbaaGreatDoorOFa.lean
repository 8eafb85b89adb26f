/- How far one comes in a net with a flow: as a plain law. What pushing along a path makes of a flow, and when no more can flow: as plain laws. A text of the prover's own. -/
import Derived.Test.YtilpfpephcngbaaGreatDoorOBa
namespace Go.Fl
open Go Go.Sv Go.Pl Go.Proofs Go.Tb Go.Ut Go.Ne
abbrev Hop := Nat × Bool
def hfr (l : List Arc) (h : Hop) : Nat := if h.2 = true then (gt l h.1).t.toNat else (gt l h.1).f.toNat
def hto (l : List Arc) (h : Hop) : Nat := if h.2 = true then (gt l h.1).f.toNat else (gt l h.1).t.toNat
def room (l : List Arc) (x : List Rat) (h : Hop) : Rat := if h.2 = true then gt x h.1 else (gt l h.1).cap - gt x h.1
def falses : List Bool → Nat
  | [] => 0
  | b :: r => (if b = true then 0 else 1) + falses r
theorem falses_set : ∀ {r : List Bool} {i : Nat}, i < r.length → gt r i = false → falses (r.set i true) + 1 = falses r
  | [], i, h, _ => by simp at h
  | b :: r, 0, _, hb => by
    have : b = false := hb
    subst this
    simp [falses]; omega
  | b :: r, i + 1, h, hb => by
    have := falses_set (r := r) (i := i) (by simpa using h) hb
    simp only [List.set_cons_succ, falses]; omega
theorem falses_rep : ∀ n, falses (List.replicate n false) = n
  | 0 => rfl
  | n + 1 => by simp [List.replicate_succ, falses, falses_rep n]; omega
/-- what is known of each node that is come to, but the first -/
def Tr (l : List Arc) (x : List Rat) (s : Nat) (by' : List Hop) (ord : List Nat) (rk : Nat → Nat) : Prop :=
  ∀ v ∈ ord, v ≠ s → (gt by' v).1 < l.length ∧ 0 < room l x (gt by' v) ∧ hto l (gt by' v) = v ∧ hfr l (gt by' v) ∈ ord ∧ rk (hfr l (gt by' v)) < rk v
structure Bfs (n : Nat) (l : List Arc) (x : List Rat) (s : Nat) (by' : List Hop) (seen : List Bool) (dn td : List Nat) : Prop where
  bl : by'.length = n
  sl : seen.length = n
  ct : (dn ++ td).length + falses seen = n
  lt : ∀ v ∈ dn ++ td, v < n
  sn : ∀ v, v < n → (gt seen v = true ↔ v ∈ dn ++ td)
  s0 : s ∈ dn ++ td
  tr : ∃ rk : Nat → Nat, (∀ v ∈ dn ++ td, rk v < (dn ++ td).length) ∧ Tr l x s by' (dn ++ td) rk
  cl : ∀ v ∈ dn, ∀ h : Hop, h.1 < l.length → hfr l h = v → 0 < room l x h → hto l h ∈ dn ++ td
/-- the arcs that are looked at, out of one node -/
def Part (l : List Arc) (x : List Rat) (ord : List Nat) (u i q : Nat) : Prop :=
  ∀ h : Hop, h.1 < l.length → (h.1 < i ∨ (h.1 = i ∧ (if h.2 = true then 1 else 0) < q)) → hfr l h = u → 0 < room l x h → hto l h ∈ ord
structure Reach (n : Nat) (l : List Arc) (x : List Rat) (s : Nat) (by' : List Hop) (seen : List Bool) : Prop where
  bl : by'.length = n
  sl : seen.length = n
  s0 : gt seen s = true
  cl : ∀ h : Hop, h.1 < l.length → hfr l h < n → hto l h < n → gt seen (hfr l h) = true → 0 < room l x h → gt seen (hto l h) = true
  tr : ∃ rk : Nat → Nat, ∀ v, v < n → gt seen v = true → v ≠ s → (gt by' v).1 < l.length ∧ 0 < room l x (gt by' v) ∧ hto l (gt by' v) = v ∧ hfr l (gt by' v) < n ∧ gt seen (hfr l (gt by' v)) = true ∧ rk (hfr l (gt by' v)) < rk v
theorem gt_rep {α : Type} [Inhabited α] {n i : Nat} {x : α} (h : i < n) : gt (List.replicate n x) i = x := by simp [gt, h]
theorem Bfs.init {n : Nat} {l : List Arc} {x : List Rat} {s : Nat} (hs : s < n) : Bfs n l x s (List.replicate n (0, false)) ((List.replicate n false).set s true) [] [s] where
  bl := by simp
  sl := by simp
  ct := by
    have := falses_set (r := List.replicate n false) (i := s) (by simpa using hs) (gt_rep hs)
    rw [falses_rep] at this
    simp; omega
  lt := fun v hv => by
    have : v = s := by simpa using hv
    omega
  sn := fun v hv => by
    rw [gt_set (by simpa using hv)]
    by_cases e : s = v
    · rw [if_pos e]; simp [e]
    · rw [if_neg e, gt_rep hv]; simp; omega
  s0 := by simp
  tr := ⟨fun _ => 0, fun v hv => by simp, fun v hv hn => absurd (by simpa using hv) hn⟩
  cl := fun v hv => by simp at hv
theorem Bfs.found {n : Nat} {l : List Arc} {x : List Rat} {s : Nat} {by' : List Hop} {seen : List Bool} {dn td : List Nat} (b : Bfs n l x s by' seen dn td) {h : Hop} (h1 : h.1 < l.length) (h2 : hfr l h ∈ dn ++ td) (h3 : 0 < room l x h)
    (h4 : hto l h < n) (h5 : gt seen (hto l h) = false) : Bfs n l x s (by'.set (hto l h) h) (seen.set (hto l h) true) dn (td ++ [hto l h]) := by
  have hno : hto l h ∉ dn ++ td := fun q => by rw [(b.sn _ h4).2 q] at h5; cases h5
  have hmem : ∀ v, v ∈ dn ++ (td ++ [hto l h]) ↔ v ∈ dn ++ td ∨ v = hto l h := fun v => by simp [or_assoc]
  obtain ⟨rk, r1, r2⟩ := b.tr
  refine ⟨by simpa using b.bl, by simpa using b.sl, ?_, fun v hv => ?_, fun v hv => ?_, (hmem s).2 (.inl b.s0), ⟨fun v => if v = hto l h then (dn ++ td).length else rk v, fun v hv => ?_, fun v hv hn => ?_⟩, fun v hv g q1 q2 q3 => (hmem _).2 (.inl (b.cl v hv g q1 q2 q3))⟩
  · have := falses_set (r := seen) (i := hto l h) (by rw [b.sl]; exact h4) h5
    have := b.ct
    simp only [List.length_append, List.length_cons, List.length_nil] at *
    omega
  · rcases (hmem v).1 hv with q | q
    · exact b.lt v q
    · rw [q]; exact h4
  · rw [gt_set (by rw [b.sl]; exact hv), hmem]
    by_cases e : hto l h = v
    · rw [if_pos e]; simp [e]
    · rw [if_neg e, b.sn v hv]
      exact ⟨.inl, fun q => q.resolve_right (fun q => e q.symm)⟩
  · have hlen : (dn ++ (td ++ [hto l h])).length = (dn ++ td).length + 1 := by simp; omega
    rw [hlen]
    simp only
    split
    · omega
    · rename_i e
      have := r1 v (((hmem v).1 hv).resolve_right e)
      omega
  · have hf : hfr l h ≠ hto l h := fun q => hno (by rw [← q]; exact h2)
    simp only
    by_cases e : v = hto l h
    · subst e
      rw [gt_set (by rw [b.bl]; exact h4), if_pos rfl, if_pos rfl, if_neg hf]
      exact ⟨h1, h3, rfl, (hmem _).2 (.inl h2), r1 _ h2⟩
    · have hv' := ((hmem v).1 hv).resolve_right e
      rw [gt_set (by rw [b.bl]; exact b.lt v hv'), if_neg (fun q => e q.symm), if_neg e]
      obtain ⟨q1, q2, q3, q4, q5⟩ := r2 v hv' hn
      have : hfr l (gt by' v) ≠ hto l h := fun q => hno (by rw [← q]; exact q4)
      rw [if_neg this]
      exact ⟨q1, q2, q3, (hmem _).2 (.inl q4), q5⟩
theorem Bfs.next {n : Nat} {l : List Arc} {x : List Rat} {s : Nat} {by' : List Hop} {seen : List Bool} {dn td : List Nat} {u : Nat} (b : Bfs n l x s by' seen dn (u :: td)) (hp : Part l x (dn ++ u :: td) u l.length 0) : Bfs n l x s by' seen (dn ++ [u]) td := by
  have e : dn ++ [u] ++ td = dn ++ u :: td := by simp
  refine ⟨b.bl, b.sl, by rw [e]; exact b.ct, by rw [e]; exact b.lt, by rw [e]; exact b.sn, by rw [e]; exact b.s0, by rw [e]; exact b.tr, fun v hv h q1 q2 q3 => ?_⟩
  rw [e]
  rcases List.mem_append.1 hv with q | q
  · exact b.cl v q h q1 q2 q3
  · have : v = u := by simpa using q
    exact hp h q1 (.inl q1) (by rw [q2, this]) q3
theorem Bfs.done {n : Nat} {l : List Arc} {x : List Rat} {s : Nat} {by' : List Hop} {seen : List Bool} {dn : List Nat} (b : Bfs n l x s by' seen dn []) : Reach n l x s by' seen := by
  have e : dn ++ ([] : List Nat) = dn := by simp
  have sn := b.sn
  have s0 := b.s0
  have cl := b.cl
  have lt := b.lt
  obtain ⟨rk, -, r2⟩ := b.tr
  rw [e] at sn s0 cl lt r2
  refine ⟨b.bl, b.sl, (sn s (lt s s0)).2 s0, fun h q1 q2 q3 q4 q5 => (sn _ q3).2 (cl _ ((sn _ q2).1 q4) h q1 rfl q5), rk, fun v hv h1 h2 => ?_⟩
  obtain ⟨g1, g2, g3, g4, g5⟩ := r2 v ((sn v hv).1 h1) h2
  exact ⟨g1, g2, g3, lt _ g4, (sn _ (lt _ g4)).2 g4, g5⟩
theorem Part.mono {l : List Arc} {x : List Rat} {o o' : List Nat} {u i q : Nat} (h : Part l x o u i q) (ho : ∀ v ∈ o, v ∈ o') : Part l x o' u i q := fun g q1 q2 q3 q4 => ho _ (h g q1 q2 q3 q4)
theorem Part.zero {l : List Arc} {x : List Rat} {o : List Nat} {u : Nat} : Part l x o u 0 0 := fun h _ q _ _ => by omega
/-- one more way is looked at -/
theorem Part.more {l : List Arc} {x : List Rat} {o : List Nat} {u i q : Nat} {b : Bool} (h : Part l x o u i q) (hb : (if b = true then 1 else 0) = q) (hn : i < l.length → hfr l (i, b) = u → 0 < room l x (i, b) → hto l (i, b) ∈ o) : Part l x o u i (q + 1) := fun g q1 q2 q3 q4 => by
  rcases q2 with q2 | ⟨q2, q5⟩
  · exact h g q1 (.inl q2) q3 q4
  · by_cases e : (if g.2 = true then 1 else 0) < q
    · exact h g q1 (.inr ⟨q2, e⟩) q3 q4
    · have e2 : g = (i, b) := by
        obtain ⟨gi, gb⟩ := g
        simp only at q2 e q5
        subst q2
        congr 1
        revert hb e q5
        cases gb <;> cases b <;> simp <;> omega
      rw [e2] at q1 q3 q4 ⊢
      exact hn q1 q3 q4
theorem Part.both {l : List Arc} {x : List Rat} {o : List Nat} {u i : Nat} (h : Part l x o u i 2) : Part l x o u (i + 1) 0 := fun g q1 q2 q3 q4 => by
  refine h g q1 ?_ q3 q4
  rcases q2 with q2 | ⟨_, q2⟩
  · by_cases e : g.1 < i
    · exact .inl e
    · exact .inr ⟨by omega, by split <;> omega⟩
  · omega
end Go.Fl
namespace Go.Fl
open Go Go.Sv Go.Pl Go.Proofs Go.Tb Go.Ut Go.Ne
theorem dl_set {l : List Arc} {x : List Rat} {i : Nat} (hi : i < x.length) (d : Rat) (w : Nat) : ∀ j, j ≤ x.length → dl l (x.set i (gt x i + d)) w j = dl l x w j + if i < j then ((if (gt l i).f.toNat = w then d else 0) - (if (gt l i).t.toNat = w then d else 0)) else 0
  | 0, _ => by simp only [dl]; rw [if_neg (by omega)]; grind
  | j + 1, hj => by
    simp only [dl]
    rw [dl_set hi d w j (by omega), gt_set (by omega)]
    rcases Nat.lt_trichotomy i j with h | h | h
    · rw [if_pos h, if_neg (show ¬ i = j by omega), if_pos (show i < j + 1 by omega)]
      split <;> split <;> grind
    · subst h
      rw [if_neg (show ¬ i < i by omega), if_pos rfl, if_pos (show i < i + 1 by omega)]
      generalize dl l x w i = e0
      split <;> split <;> grind
    · rw [if_neg (show ¬ i < j by omega), if_neg (show ¬ i = j by omega), if_neg (show ¬ i < j + 1 by omega)]
      grind
def up (l : List Arc) (bh : List Hop) (t : Nat) : Nat → Nat
  | 0 => t
  | k + 1 => hfr l (gt bh (up l bh t k))
def Rk (n : Nat) (l : List Arc) (x : List Rat) (s : Nat) (bh : List Hop) (seen : List Bool) (rk : Nat → Nat) : Prop :=
  ∀ v, v < n → gt seen v = true → v ≠ s → (gt bh v).1 < l.length ∧ 0 < room l x (gt bh v) ∧ hto l (gt bh v) = v ∧ hfr l (gt bh v) < n ∧ gt seen (hfr l (gt bh v)) = true ∧ rk (hfr l (gt bh v)) < rk v
theorem up_seen {n : Nat} {l : List Arc} {x : List Rat} {s t : Nat} {bh : List Hop} {seen : List Bool} {rk : Nat → Nat} (h : Rk n l x s bh seen rk) (ht : t < n) (hs : gt seen t = true) : ∀ k, (∀ j, j < k → up l bh t j ≠ s) → up l bh t k < n ∧ gt seen (up l bh t k) = true
  | 0, _ => ⟨ht, hs⟩
  | k + 1, hj => by
    obtain ⟨a, b⟩ := up_seen h ht hs k (fun j q => hj j (by omega))
    obtain ⟨_, _, _, c, d, _⟩ := h _ a b (hj k (by omega))
    exact ⟨c, d⟩
theorem hop_opp {l : List Arc} {g h : Hop} (h1 : g.1 = h.1) (h2 : g.2 ≠ h.2) : hfr l g = hto l h := by
  obtain ⟨i, a⟩ := g
  obtain ⟨j, b⟩ := h
  simp only at h1 h2
  subst h1
  unfold hfr hto
  cases a <;> cases b <;> simp at h2 ⊢
/-- the least room so far -/
structure Low (l : List Arc) (x : List Rat) (s t : Nat) (bh : List Hop) (most0 : Rat) (some0 : Bool) (k : Nat) (m : Rat) (b : Bool) : Prop where
  ns : ∀ j, j < k → up l bh t j ≠ s
  le : ∀ j, j < k → m ≤ room l x (gt bh (up l bh t j))
  m0 : some0 = true → b = true ∧ m ≤ most0
  k0 : 0 < k → b = true
  or : b = true → (m = most0 ∧ some0 = true) ∨ ∃ h : Hop, h.1 < l.length ∧ 0 < room l x h ∧ m = room l x h
theorem Low.init {l : List Arc} {x : List Rat} {s t : Nat} {bh : List Hop} {most0 : Rat} {some0 : Bool} : Low l x s t bh most0 some0 0 most0 some0 :=
  ⟨fun j hj => absurd hj (by omega), fun j hj => absurd hj (by omega), fun h => ⟨h, Rat.le_refl⟩, fun h => absurd h (by omega), fun h => .inl ⟨rfl, h⟩⟩
theorem Low.new {l : List Arc} {x : List Rat} {s t : Nat} {bh : List Hop} {most0 : Rat} {some0 : Bool} {k : Nat} {m : Rat} {b : Bool} (h : Low l x s t bh most0 some0 k m b) (hs : up l bh t k ≠ s) (hi : (gt bh (up l bh t k)).1 < l.length) (h0 : 0 < room l x (gt bh (up l bh t k)))
    (hc : b = false ∨ room l x (gt bh (up l bh t k)) < m) : Low l x s t bh most0 some0 (k + 1) (room l x (gt bh (up l bh t k))) true where
  ns j hj := by
    by_cases e : j = k
    · rw [e]; exact hs
    · exact h.ns j (by omega)
  le j hj := by
    by_cases e : j = k
    · rw [e]; exact Rat.le_refl
    · rcases hc with hc | hc
      · have := h.k0 (by omega)
        rw [hc] at this; cases this
      · have := h.le j (by omega)
        grind
  m0 hh := by
    obtain ⟨a, b'⟩ := h.m0 hh
    refine ⟨rfl, ?_⟩
    rcases hc with hc | hc
    · rw [hc] at a; cases a
    · grind
  k0 _ := rfl
  or _ := .inr ⟨_, hi, h0, rfl⟩
theorem Low.old {l : List Arc} {x : List Rat} {s t : Nat} {bh : List Hop} {most0 : Rat} {some0 : Bool} {k : Nat} {m : Rat} (h : Low l x s t bh most0 some0 k m true) (hs : up l bh t k ≠ s) (hc : ¬ room l x (gt bh (up l bh t k)) < m) : Low l x s t bh most0 some0 (k + 1) m true where
  ns j hj := by
    by_cases e : j = k
    · rw [e]; exact hs
    · exact h.ns j (by omega)
  le j hj := by
    by_cases e : j = k
    · rw [e]; grind
    · exact h.le j (by omega)
  m0 hh := ⟨rfl, (h.m0 hh).2⟩
  k0 _ := rfl
  or := h.or
/-- so much is pushed along the first arcs -/
structure Psh (n : Nat) (l : List Arc) (x : List Rat) (s t : Nat) (bh : List Hop) (seen : List Bool) (rk : Nat → Nat) (m : Rat) (k : Nat) (y : List Rat) : Prop where
  w : Within l y
  d : ∀ w, dl l y w l.length = dl l x w l.length + (if w = up l bh t k then m else 0) - (if w = t then m else 0)
  un : ∀ i, i < l.length → gt y i ≠ gt x i → ∃ u, u < n ∧ gt seen u = true ∧ u ≠ s ∧ (gt bh u).1 = i ∧ rk (up l bh t k) < rk u
  ch : ∀ i, i < l.length → gt y i = gt x i ∨ gt y i = gt x i + m ∨ gt y i = gt x i - m
theorem Psh.init {n : Nat} {l : List Arc} {x : List Rat} {s t : Nat} {bh : List Hop} {seen : List Bool} {rk : Nat → Nat} {m : Rat} (h : Within l x) : Psh n l x s t bh seen rk m 0 x :=
  ⟨h, fun w => by simp only [up]; grind, fun i _ q => absurd rfl q, fun i _ => .inl rfl⟩
def pushed (y : List Rat) (h : Hop) (m : Rat) : List Rat := y.set h.1 (if h.2 = true then gt y h.1 - m else gt y h.1 + m)
theorem Psh.fresh {n : Nat} {l : List Arc} {x : List Rat} {s t : Nat} {bh : List Hop} {seen : List Bool} {rk : Nat → Nat} {m : Rat} {k : Nat} {y : List Rat} (p : Psh n l x s t bh seen rk m k y) (hr : Rk n l x s bh seen rk)
    (hn : up l bh t k < n) (hsn : gt seen (up l bh t k) = true) (hs : up l bh t k ≠ s) : gt y (gt bh (up l bh t k)).1 = gt x (gt bh (up l bh t k)).1 := by
  obtain ⟨g1, g2, g3, g4, g5, g6⟩ := hr _ hn hsn hs
  generalize hv : up l bh t k = v at *
  generalize hh : gt bh v = h at *
  exact Classical.byContradiction fun q => by
    obtain ⟨u, u1, u2, u3, u4, u5⟩ := p.un _ g1 q
    rw [hv] at u5
    obtain ⟨-, -, w3, -, -, w6⟩ := hr u u1 u2 u3
    by_cases e : (gt bh u).2 = h.2
    · have : gt bh u = h := Prod.ext u4 e
      rw [this, g3] at w3
      rw [← w3] at u5
      omega
    · have := hop_opp (l := l) (g := h) (h := gt bh u) u4.symm (fun q => e q.symm)
      rw [this, w3] at g6
      omega
theorem Psh.step {n : Nat} {l : List Arc} {x : List Rat} {s t : Nat} {bh : List Hop} {seen : List Bool} {rk : Nat → Nat} {m : Rat} {k : Nat} {y : List Rat} (p : Psh n l x s t bh seen rk m k y) (hr : Rk n l x s bh seen rk)
    (hn : up l bh t k < n) (hsn : gt seen (up l bh t k) = true) (hs : up l bh t k ≠ s) (h0 : 0 ≤ m) (hm : m ≤ room l x (gt bh (up l bh t k))) : Psh n l x s t bh seen rk m (k + 1) (pushed y (gt bh (up l bh t k)) m) := by
  obtain ⟨g1, g2, g3, g4, g5, g6⟩ := hr _ hn hsn hs
  have eu : up l bh t (k + 1) = hfr l (gt bh (up l bh t k)) := rfl
  generalize hv : up l bh t k = v at *
  generalize hh : gt bh v = h at *
  have hyl := p.w.n
  have fr : gt y h.1 = gt x h.1 := by
    have := p.fresh hr (by rw [hv]; exact hn) (by rw [hv]; exact hsn) (by rw [hv]; exact hs)
    rwa [hv, hh] at this
  have hb : ∀ j, j < l.length → gt (pushed y h m) j = if h.1 = j then (if h.2 = true then gt x j - m else gt x j + m) else gt y j := fun j hj => by
    unfold pushed
    rw [gt_set (by omega), fr]
    split
    · rename_i e; rw [e]
    · rfl
  refine ⟨⟨by unfold pushed; simpa using hyl, fun j hj => ?_⟩, fun w => ?_, fun j hj hne => ?_, fun j hj => ?_⟩
  · rw [hb j hj]
    have a1 := p.w.a j hj
    split
    · rename_i e
      rw [← e] at a1 ⊢
      unfold room at hm
      split
      · rename_i e2
        rw [if_pos e2] at hm
        grind
      · rename_i e2
        rw [if_neg e2] at hm
        grind
    · exact a1
  · have e0 : pushed y h m = y.set h.1 (gt y h.1 + (if h.2 = true then -m else m)) := by
      unfold pushed
      congr 1
      split <;> grind
    rw [e0, dl_set (by omega) _ w l.length (by omega), if_pos g1, p.d w, hv, eu]
    unfold hfr hto at *
    cases hb2 : h.2 with
    | true =>
      rw [hb2] at g3
      simp only [if_true] at g3 ⊢
      rw [g3]
      generalize (gt l h.1).t.toNat = a
      by_cases c1 : w = v <;> by_cases c2 : w = a <;> by_cases c3 : w = t <;> simp only [c1, c2, c3, if_true, eq_comm] <;> grind
    | false =>
      rw [hb2] at g3
      simp only [Bool.false_eq_true, if_false] at g3 ⊢
      rw [g3]
      generalize (gt l h.1).f.toNat = a
      by_cases c1 : w = v <;> by_cases c2 : w = a <;> by_cases c3 : w = t <;> simp only [c1, c2, c3, if_true, eq_comm] <;> grind
  · rw [hb j hj] at hne
    by_cases e : h.1 = j
    · exact ⟨v, hn, hsn, hs, by rw [hh]; exact e, by rw [eu]; exact g6⟩
    · rw [if_neg e] at hne
      obtain ⟨u, u1, u2, u3, u4, u5⟩ := p.un j hj hne
      rw [hv] at u5
      exact ⟨u, u1, u2, u3, u4, by rw [eu]; omega⟩
  · rw [hb j hj]
    split
    · split
      · exact .inr (.inr rfl)
      · exact .inr (.inl rfl)
    · exact p.ch j hj
structure Pushed (n : Nat) (l : List Arc) (x : List Rat) (s t : Nat) (bh : List Hop) (seen : List Bool) (most0 : Rat) (some0 : Bool) (y : List Rat) (m : Rat) : Prop where
  w : Within l y
  d : ∀ w, dl l y w l.length = dl l x w l.length + (if w = s then m else 0) - (if w = t then m else 0)
  pos : 0 < m
  ch : ∀ i, i < l.length → gt y i = gt x i ∨ gt y i = gt x i + m ∨ gt y i = gt x i - m
  or : (m = most0 ∧ some0 = true) ∨ ∃ h : Hop, h.1 < l.length ∧ m = room l x h
  le : some0 = true → m ≤ most0
  un : ∀ i, i < l.length → gt y i ≠ gt x i → ∃ u, u < n ∧ gt seen u = true ∧ u ≠ s ∧ (gt bh u).1 = i
theorem Low.pos {l : List Arc} {x : List Rat} {s t : Nat} {bh : List Hop} {most0 : Rat} {some0 : Bool} {k : Nat} {m : Rat} {b : Bool} (h : Low l x s t bh most0 some0 k m b) (h0 : some0 = true → 0 < most0) (hb : b = true) : 0 < m := by
  rcases h.or hb with ⟨e, q⟩ | ⟨g, _, q, e⟩
  · rw [e]; exact h0 q
  · rw [e]; exact q
theorem Psh.done {n : Nat} {l : List Arc} {x : List Rat} {s t : Nat} {bh : List Hop} {seen : List Bool} {rk : Nat → Nat} {m : Rat} {j k : Nat} {y : List Rat} {most0 : Rat} {some0 b : Bool} (p : Psh n l x s t bh seen rk m j y) (h : Low l x s t bh most0 some0 k m b) (hjk : j ≤ k) (h0 : some0 = true → 0 < most0) (hk : up l bh t j = s) (hst : s ≠ t) : Pushed n l x s t bh seen most0 some0 y m := by
  have hk0 : 0 < k := by
    rcases Nat.eq_zero_or_pos j with e | e
    · rw [e] at hk; exact absurd hk.symm hst
    · omega
  have hb := h.k0 hk0
  refine ⟨p.w, fun w => by rw [p.d w, hk], h.pos h0 hb, p.ch, ?_, fun q => (h.m0 q).2, fun i hi q => by
    obtain ⟨u, a, b, c, d, _⟩ := p.un i hi q
    exact ⟨u, a, b, c, d⟩⟩
  rcases h.or hb with e | ⟨g, a, _, e⟩
  · exact .inl e
  · exact .inr ⟨g, a, e⟩
/-! parts of one whole -/
theorem mul_den (q : Rat) : q * (q.den : Rat) = (q.num : Rat) := by
  have h := Rat.num_divInt_den q
  rw [Rat.divInt_eq_div] at h
  have hd : (q.den : Rat) ≠ 0 := fun e => by
    have := Rat.natCast_pos.2 q.den_pos
    rw [e] at this
    exact absurd this (by decide)
  have := Rat.div_mul_cancel (a := (q.num : Rat)) hd
  rwa [show (q.num : Rat) / (q.den : Rat) = q from h] at this
def IsD (D : Nat) (q : Rat) : Prop := ∃ z : Int, q * (D : Rat) = (z : Rat)
theorem IsD.add {D : Nat} {a b : Rat} (h : IsD D a) (h' : IsD D b) : IsD D (a + b) := by
  obtain ⟨z, e⟩ := h
  obtain ⟨w, f⟩ := h'
  exact ⟨z + w, by rw [Rat.add_mul, e, f, Rat.intCast_add]⟩
theorem IsD.sub {D : Nat} {a b : Rat} (h : IsD D a) (h' : IsD D b) : IsD D (a - b) := by
  obtain ⟨z, e⟩ := h
  obtain ⟨w, f⟩ := h'
  refine ⟨z - w, ?_⟩
  rw [Rat.intCast_sub, ← e, ← f]; grind
theorem IsD.zero {D : Nat} : IsD D 0 := ⟨0, by rw [Rat.zero_mul]; rfl⟩
theorem IsD.of {D : Nat} {q : Rat} (h : q.den ∣ D) : IsD D q := by
  obtain ⟨e, rfl⟩ := h
  refine ⟨q.num * e, ?_⟩
  have h1 : q * (q.den : Rat) = q.num := mul_den q
  rw [Rat.intCast_mul, ← h1, Rat.natCast_mul, Rat.intCast_natCast]
  grind
theorem IsD.qw {D : Nat} {q c : Rat} {k j : Nat} (h : IsD D q) (hD : D ≠ 0) (h0 : 0 ≤ q) (hc : q ≤ c) (w1 : fw k c.num) (w2 : fw j (D : Int)) (h1 : 1 ≤ k) : qw (k + j) q := by
  obtain ⟨z, e⟩ := h
  have hDp : (0 : Rat) < (D : Rat) := Rat.natCast_pos.2 (Nat.pos_of_ne_zero hD)
  have hcd : (1 : Rat) ≤ (c.den : Rat) := by
    have := c.den_pos
    have h2 : ((1 : Nat) : Rat) ≤ (c.den : Rat) := Rat.natCast_le_natCast.2 this
    exact h2
  have e1 : c ≤ (c.num : Rat) := by
    have h1 : c * (c.den : Rat) = c.num := mul_den c
    rw [← h1]
    have hc0 : 0 ≤ c := Rat.le_trans h0 hc
    have := Rat.mul_le_mul_of_nonneg_left hcd hc0
    rwa [Rat.mul_one] at this
  have z0 : 0 ≤ z := by
    have := Rat.mul_nonneg h0 (Rat.le_of_lt hDp)
    rw [e] at this
    exact Rat.intCast_nonneg.1 this
  have z1 : z ≤ c.num * (D : Int) := by
    have := Rat.mul_le_mul_of_nonneg_right (Rat.le_trans hc e1) (Rat.le_of_lt hDp)
    rw [e] at this
    have h3 : ((c.num * (D : Int) : Int) : Rat) = (c.num : Rat) * (D : Rat) := by rw [Rat.intCast_mul, Rat.intCast_natCast]
    rw [← h3] at this
    exact Rat.intCast_le_intCast.1 this
  have eq : q = Rat.divInt z D := by
    rw [Rat.divInt_eq_div, ← e, Rat.intCast_natCast]
    rw [Rat.mul_div_cancel]
    grind
  rw [eq]
  refine qw_divInt (fw_le (y := c.num * (D : Int)) ?_ (fw_mul w1 w2)) (fw_mono w2 (by omega)) (by omega)
  omega
def dens : List Arc → Nat
  | [] => 1
  | a :: r => a.cap.den * dens r
theorem dens_pos : ∀ l, dens l ≠ 0
  | [] => by decide
  | a :: r => by
    have := dens_pos r
    have := a.cap.den_nz
    exact Nat.mul_ne_zero ‹_› ‹_›
theorem dens_dvd : ∀ {l : List Arc} {a : Arc}, a ∈ l → a.cap.den ∣ dens l
  | b :: r, a, h => by
    rcases List.mem_cons.1 h with e | e
    · rw [e]; exact Nat.dvd_mul_right _ _
    · exact Nat.dvd_trans (dens_dvd e) (Nat.dvd_mul_left _ _)
theorem dens_fw : ∀ {l : List Arc}, (∀ a ∈ l, qw 2200 a.cap) → fw (1 + 2200 * l.length) (dens l : Int)
  | [], _ => fw_one (by omega)
  | a :: r, h => by
    have h1 := dens_fw (l := r) fun b hb => h b (List.mem_cons_of_mem _ hb)
    have h2 := (h a (by simp)).2
    have : ((dens (a :: r) : Nat) : Int) = (a.cap.den : Int) * (dens r : Int) := by show ((a.cap.den * dens r : Nat) : Int) = _; push_cast; rfl
    rw [this]
    exact fw_mono (fw_mul h2 h1) (by simp; omega)
def capS (l : List Arc) : Nat → Rat
  | 0 => 0
  | i + 1 => capS l i + (gt l i).cap
theorem qw_capS {l : List Arc} (hw : ArcW l) : ∀ i, i ≤ l.length → qw (1 + 2201 * i) (capS l i)
  | 0, _ => qw_zero _ (by omega)
  | i + 1, h => qw_mono (qw_add (qw_capS hw i (by omega)) (hw.cap i (by omega))) (by omega)
theorem IsD.capS {l : List Arc} : ∀ i, i ≤ l.length → IsD (dens l) (capS l i)
  | 0, _ => IsD.zero
  | i + 1, h => (IsD.capS i (by omega)).add (IsD.of (dens_dvd (gt_mem (by omega))))
theorem dl_le {l : List Arc} {x : List Rat} (h : Within l x) (v : Nat) : ∀ j, j ≤ l.length → dl l x v j ≤ capS l j
  | 0, _ => Rat.le_refl
  | j + 1, hj => by
    have := dl_le h v j (by omega)
    have := h.a j (by omega)
    simp only [dl, capS]
    split <;> split <;> grind
/-! the flow that is there -/
structure Flow (l : List Arc) (s t : Nat) (x : List Rat) (sum : Rat) : Prop where
  w : Within l x
  z : ∀ v, v ≠ s → v ≠ t → dl l x v l.length = 0
  s : dl l x s l.length = sum
  p : 0 ≤ sum
  i : ∀ i, i < l.length → IsD (dens l) (gt x i)
  si : IsD (dens l) sum
theorem dl_zero (l : List Arc) (n v : Nat) : ∀ j, j ≤ n → dl l (List.replicate n 0) v j = 0
  | 0, _ => rfl
  | j + 1, h => by
    simp only [dl]
    rw [dl_zero l n v j (by omega), gt_rep (by omega)]
    split <;> split <;> grind
theorem Flow.init {l : List Arc} {s t : Nat} (hc : ∀ i, i < l.length → 0 ≤ (gt l i).cap) : Flow l s t (List.replicate l.length 0) 0 where
  w := ⟨by simp, fun i hi => by rw [gt_rep hi]; exact ⟨Rat.le_refl, hc i hi⟩⟩
  z v _ _ := dl_zero l _ v _ (Nat.le_refl _)
  s := dl_zero l _ s _ (Nat.le_refl _)
  p := Rat.le_refl
  i i hi := by rw [gt_rep hi]; exact IsD.zero
  si := IsD.zero
theorem IsD.room {l : List Arc} {s t : Nat} {x : List Rat} {sum : Rat} (f : Flow l s t x sum) (h : Hop) (hh : h.1 < l.length) : IsD (dens l) (room l x h) := by
  unfold Fl.room
  split
  · exact f.i _ hh
  · exact IsD.sub (IsD.of (dens_dvd (gt_mem hh))) (f.i _ hh)
theorem Flow.step {n : Nat} {l : List Arc} {s t : Nat} {bh : List Hop} {seen : List Bool} {x y : List Rat} {sum m q : Rat} (f : Flow l s t x sum) (hst : s ≠ t) (h : Pushed n l x s t bh seen q false y m) : Flow l s t y (sum + m) := by
  have hm : IsD (dens l) m := by
    rcases h.or with ⟨_, e⟩ | ⟨g, a, e⟩
    · cases e
    · rw [e]; exact IsD.room f g a
  have hp := h.pos
  have fp := f.p
  refine ⟨h.w, fun v a b => ?_, ?_, by grind, fun i hi => ?_, f.si.add hm⟩
  · rw [h.d v, f.z v a b, if_neg a, if_neg b]; grind
  · rw [h.d s, f.s, if_pos rfl, if_neg hst]; grind
  · rcases h.ch i hi with e | e | e <;> rw [e]
    · exact f.i i hi
    · exact (f.i i hi).add hm
    · exact (f.i i hi).sub hm
theorem Flow.le {l : List Arc} {s t : Nat} {x : List Rat} {sum : Rat} (f : Flow l s t x sum) : sum ≤ capS l l.length := by
  rw [← f.s]; exact dl_le f.w s _ (Nat.le_refl _)
theorem Flow.qx {l : List Arc} {s t : Nat} {x : List Rat} {sum : Rat} (f : Flow l s t x sum) (hl : l.length ≤ 300) (hw : ArcW l) (i : Nat) (hi : i < l.length) : qw 700000 (gt x i) := by
  have a := f.w.a i hi
  have wD : fw (1 + 2200 * l.length) (dens l : Int) := dens_fw fun b hb => by
    obtain ⟨j, hj, rfl⟩ := List.getElem_of_mem hb
    rw [gt_get hj]; exact hw.cap j hj
  exact qw_mono ((f.i i hi).qw (dens_pos l) a.1 a.2 (hw.cap i hi).1 wD (by omega)) (by omega)
theorem Flow.qs {l : List Arc} {s t : Nat} {x : List Rat} {sum : Rat} (f : Flow l s t x sum) (hl : l.length ≤ 300) (hw : ArcW l) : qw 1400000 sum := by
  have wD : fw (1 + 2200 * l.length) (dens l : Int) := dens_fw fun b hb => by
    obtain ⟨j, hj, rfl⟩ := List.getElem_of_mem hb
    rw [gt_get hj]; exact hw.cap j hj
  exact qw_mono (f.si.qw (dens_pos l) f.p f.le (qw_capS hw _ (Nat.le_refl _)).1 wD (by omega)) (by omega)
theorem qok_room {l : List Arc} (hw : ArcW l) {x : List Rat} (hx : ∀ i, i < l.length → qw 2000000 (gt x i)) (h : Hop) (hh : h.1 < l.length) : qok (room l x h) := by
  unfold room; split
  · exact qok_of (hx _ hh) (by omega)
  · exact qok_of (qw_sub (hw.cap _ hh) (hx _ hh)) (by omega)
theorem Reach.rk {n : Nat} {l : List Arc} {x : List Rat} {s : Nat} {bh : List Hop} {seen : List Bool} (r : Go.Fl.Reach n l x s bh seen) : ∃ rk, Rk n l x s bh seen rk := r.tr
/-! the cut -/
theorem net_cap {n : Int} {l : List Arc} (h : netC n l = 0) (i : Nat) (hi : i < l.length) : 0 ≤ (gt l i).cap := by
  unfold netC at h
  split at h
  · omega
  · split at h
    · omega
    · rename_i h1
      have hb : ¬ bad n (gt l i) := fun hb => h1 (List.any_eq_true.2 ⟨_, gt_mem hi, decide_eq_true hb⟩)
      unfold bad at hb
      grind
theorem hfr_lt {n : Nat} {l : List Arc} (hn : Net n l) {h : Hop} (hh : h.1 < l.length) : hfr l h < n := by
  obtain ⟨f, t, ef, et, hf, ht⟩ := hn.a _ hh
  unfold hfr; split <;> omega
theorem hto_lt {n : Nat} {l : List Arc} (hn : Net n l) {h : Hop} (hh : h.1 < l.length) : hto l h < n := by
  obtain ⟨f, t, ef, et, hf, ht⟩ := hn.a _ hh
  unfold hto; split <;> omega
/-- no way leads out of what is seen -/
def Shut (l : List Arc) (x : List Rat) (seen : List Bool) : Prop := ∀ h : Hop, h.1 < l.length → gt seen (hfr l h) = true → 0 < room l x h → gt seen (hto l h) = true
def ss (seen : List Bool) (g : Nat → Rat) : Nat → Rat
  | 0 => 0
  | v + 1 => ss seen g v + if gt seen v = true then g v else 0
theorem ss_one (seen : List Bool) (g : Nat → Rat) (f : Nat) (c : Rat) (neg : Bool) : ∀ n, ss seen (fun v => g v + if f = v then c else 0) n = ss seen g n + if f < n ∧ gt seen f = true then c else 0
  | 0 => by simp only [ss]; rw [if_neg (by omega)]; grind
  | n + 1 => by
    simp only [ss]
    rw [ss_one seen g f c neg n]
    by_cases e : f = n
    · subst e
      have h0 : ¬ (f < f ∧ gt seen f = true) := fun h => by omega
      simp only [if_neg h0, if_true]
      by_cases q : gt seen f = true
      · have q' : f < f + 1 ∧ gt seen f = true := ⟨by omega, q⟩
        simp only [if_pos q, if_pos q']; grind
      · have q' : ¬ (f < f + 1 ∧ gt seen f = true) := fun h => q h.2
        simp only [if_neg q, if_neg q']
    · by_cases q : f < n ∧ gt seen f = true
      · have q' : f < n + 1 ∧ gt seen f = true := ⟨by omega, q.2⟩
        simp only [if_neg e, if_pos q, if_pos q']; split <;> grind
      · have q' : ¬ (f < n + 1 ∧ gt seen f = true) := fun h => q ⟨by omega, h.2⟩
        simp only [if_neg e, if_neg q, if_neg q']; split <;> grind
theorem ss_dl {n : Nat} {l : List Arc} (hn : Net n l) {x : List Rat} (hx : Within l x) {seen : List Bool} (r : Shut l x seen) : ∀ j, j ≤ l.length → ss seen (fun v => dl l x v j) n = thr l seen j
  | 0, _ => by
    have : ∀ n, ss seen (fun v => dl l x v 0) n = 0 := fun n => by
      induction n with
      | zero => rfl
      | succ n ih =>
        simp only [dl] at ih
        simp only [ss, dl, ih]; split <;> grind
    exact this n
  | j + 1, hj => by
    have ih := ss_dl hn hx r j (by omega)
    obtain ⟨f, t, ef, et, hf, ht⟩ := hn.a j (by omega)
    have ax := hx.a j (by omega)
    have e : (fun v => dl l x v (j + 1)) = fun v => (dl l x v j + if f = v then gt x j else 0) + if t = v then -(gt x j) else 0 := by
      funext v
      simp only [dl, ef, et, Int.toNat_natCast]
      split <;> split <;> grind
    rw [e, ss_one seen _ t (-(gt x j)) true n, ss_one seen _ f (gt x j) true n, ih]
    have c1 := r (j, false) (by show j < _; omega)
    have c2 := r (j, true) (by show j < _; omega)
    simp only [hfr, hto, room, Bool.false_eq_true, if_false, if_true, ef, et, Int.toNat_natCast] at c1 c2
    simp only [thr, over, ef, et, Int.toNat_natCast]
    cases b1 : gt seen f <;> cases b2 : gt seen t
    · simp [hf, ht]; grind
    · have h0 : ¬ 0 < gt x j := fun q => by
        have := c2 b2 q
        rw [b1] at this; cases this
      simp [hf, ht]; grind
    · have h0 : ¬ 0 < (gt l j).cap - gt x j := fun q => by
        have := c1 b1 q
        rw [b2] at this; cases this
      simp [hf, ht]; grind
    · simp [hf, ht]; grind
end Go.Fl

