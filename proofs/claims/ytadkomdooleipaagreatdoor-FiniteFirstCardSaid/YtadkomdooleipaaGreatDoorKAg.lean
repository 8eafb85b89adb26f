/- Puzzles: the first values that keep one are found by branching. A text of the prover's own; it names no program. -/
import Derived.Test.YtadkomdooleipaaGreatDoorKAf
namespace Go.Fn
open Go Go.Tb Go.Ut
section
variable {q : List Int → Prop} {l : List Int} {n N : Nat}
theorem first_some (hl : Asc l) (hq : ∀ y, q y → gt y n ∈ l) (hp : ∀ y y', q y → q y' → ∀ j, j < n → gt y j = gt y' j) (hN : ∀ y, q y → y.length = N) (hn : n < N) {t : Nat} (ht : t < l.length)
    (h0 : ∀ s, s < t → ∀ y, q y → gt y n ≠ gt l s) {x : List Int} (hx : IsFirst (fun y => q y ∧ gt y n = gt l t) (some x)) : IsFirst q (some x) := by
  obtain ⟨⟨h1, h2⟩, h3⟩ := hx
  refine ⟨h1, fun y hy => ?_⟩
  by_cases e : gt y n = gt l t
  · exact h3 y ⟨hy, e⟩
  · obtain ⟨s, hs, es⟩ := mem_gt (hq y hy)
    have : t < s := by
      rcases Nat.lt_trichotomy s t with q' | q' | q'
      · exact absurd es.symm (h0 s q' y hy)
      · subst q'; exact absurd es.symm e
      · exact q'
    refine lexle_at (k := n) (by rw [hN x h1, hN y hy]) (by rw [hN x h1]; exact hn) (hp x y h1 hy) ?_
    rw [h2, ← es]; exact asc_lt hl this hs
theorem first_none (hq : ∀ y, q y → gt y n ∈ l) (h0 : ∀ s, s < l.length → ∀ y, q y → gt y n ≠ gt l s) : IsFirst q none := fun y hy => by
  obtain ⟨s, hs, es⟩ := mem_gt (hq y hy)
  exact h0 s hs y hy es.symm
end
theorem none_of {q : List Int → Prop} {l : List Int} {n t : Nat} (h0 : ∀ s, s < t → ∀ y, q y → gt y n ≠ gt l s) (h : IsFirst (fun y => q y ∧ gt y n = gt l t) none) : ∀ s, s < t + 1 → ∀ y, q y → gt y n ≠ gt l s := fun s hs y hy e => by
  by_cases e' : s = t
  · subst e'; exact h y ⟨hy, e⟩
  · exact h0 s (by omega) y hy e
/-! the program's way -/
theorem sol_set {p : Puz} {L : Lf} {k : Nat} (hk : k < L.length) {v : Int} (hv : v ∈ gt L k) {y : List Int} : Sol p (L.set k [v]) y ↔ Sol p L y ∧ gt y k = v := by
  constructor
  · intro h
    have e : gt y k = v := by
      have := h.mem k (by simpa using hk)
      rw [gt_setL hk, if_pos rfl] at this
      simpa using this
    refine ⟨⟨by rw [h.len]; simp, fun i hi => ?_, h.con⟩, e⟩
    have := h.mem i (by simpa using hi)
    rw [gt_setL hi] at this
    split at this
    · rename_i q; subst q; rw [e]; exact hv
    · exact this
  · rintro ⟨h, e⟩
    refine ⟨by rw [h.len]; simp, fun i hi => ?_, h.con⟩
    have hi' : i < L.length := by simpa using hi
    rw [gt_setL hi']
    split
    · rename_i q; subst q; rw [e]; simp
    · exact h.mem i hi'
theorem size_set {L : Lf} {k : Nat} (hk : k < L.length) {v : Int} (h : 2 ≤ (gt L k).length) : size (L.set k [v]) < size L := by
  induction L generalizing k with
  | nil => simp at hk
  | cons a L ih =>
    cases k with
    | zero => simp [size, gt] at h ⊢; omega
    | succ k =>
      have := ih (k := k) (by simpa using hk) (by simpa [gt] using h)
      simp only [size, List.set_cons_succ, List.map_cons, List.sum_cons] at this ⊢
      omega
theorem sol_nar {p : Puz} {L L' : Lf} (hp : ∀ c ∈ p.cons, ConOK L.length c) (hn : Nar p L L' true) {y : List Int} : Sol p L y ↔ Sol p L' y := ⟨fun h => (sol_left hp hn h).2, sol_up ⟨hn.len, fun k hk v hv => (hn.sub k hk).subset hv⟩⟩
theorem one_of {l : List Int} (h : l.length = 1) : l = [low l] := by
  match l, h with
  | [x], _ => rfl
/-- where each list has one value -/
theorem first_leaf {p : Puz} {L : Lf} (h1 : ∀ k, k < L.length → (gt L k).length = 1) (b : Bool) (hb : b = true ↔ ∀ c ∈ p.cons, keptP c (argsOf c (L.map low))) : IsFirst (Sol p L) (if b = true then some (L.map low) else none) := by
  have hx : ∀ y, Sol p L y → y = L.map low := fun y hy => by
    refine ext_gt' (by simp [hy.len]) fun i hi => ?_
    have hi' : i < L.length := by rw [← hy.len]; exact hi
    have := hy.mem i hi'
    rw [one_of (h1 i hi')] at this
    rw [gt_map _ hi']
    simpa using this
  split
  · rename_i h
    refine ⟨⟨by simp, fun i hi => ?_, hb.1 h⟩, fun y hy => ?_⟩
    · rw [gt_map _ hi]; exact low_mem (by intro e; have := h1 i hi; rw [e] at this; simp at this)
    · rw [hx y hy]; exact lexle_refl _
  · rename_i h
    intro y hy
    refine h (hb.2 ?_)
    rw [← hx y hy]; exact hy.con
/-! the document's way -/
/-- values that keep the puzzle and begin so, one of them given -/
structure Ext (p : Puz) (k at' : Int) (x : List Int) (y : List Int) : Prop where
  len : y.length = p.values.length
  mem : ∀ i, i < p.values.length → gt y i ∈ gt p.values i
  con : ∀ c ∈ p.cons, keptP c (argsOf c y)
  one : ∀ i : Nat, i < p.values.length → (i : Int) = k → gt y i = at'
  pre : ∀ i, i < x.length → gt y i = gt x i
theorem ext_step {p : Puz} {k at' v : Int} {x y : List Int} (hx : x.length < p.values.length) : Ext p k at' (x ++ [v]) y ↔ Ext p k at' x y ∧ gt y x.length = v := by
  constructor
  · intro h
    refine ⟨⟨h.len, h.mem, h.con, h.one, fun i hi => ?_⟩, ?_⟩
    · rw [h.pre i (by simp; omega), gt_app hi]
    · rw [h.pre x.length (by simp)]; simp [gt]
  · rintro ⟨h, e⟩
    refine ⟨h.len, h.mem, h.con, h.one, fun i hi => ?_⟩
    by_cases q : i < x.length
    · rw [gt_app q]; exact h.pre i q
    · have : i = x.length := by simp at hi; omega
      subst this
      rw [e]; simp [gt]
theorem ext_sol {p : Puz} {y : List Int} : Ext p (-1) 0 [] y ↔ Sol p p.values y := ⟨fun h => ⟨h.len, h.mem, h.con⟩, fun h => ⟨h.len, h.mem, h.con, fun i _ e => by omega, fun i hi => by simp at hi⟩⟩
theorem ext_at {p : Puz} {k : Nat} (hk : k < p.values.length) {v : Int} {y : List Int} : Ext p k v [] y ↔ Sol p p.values y ∧ gt y k = v := by
  constructor
  · exact fun h => ⟨⟨h.len, h.mem, h.con⟩, h.one k hk rfl⟩
  · rintro ⟨h, e⟩
    exact ⟨h.len, h.mem, h.con, fun i _ q => by
      have : i = k := by omega
      subst this; exact e, fun i hi => by simp at hi⟩
end Go.Fn

