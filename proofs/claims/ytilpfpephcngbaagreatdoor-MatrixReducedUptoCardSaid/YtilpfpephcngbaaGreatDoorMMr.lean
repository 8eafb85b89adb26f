/- Tables made into reduced form: as a plain law. A text of the prover's own. -/
import Derived.Test.YtilpfpephcngbaaGreatDoorMMa
import Derived.Test.YtilpfpephcngbaaGreatDoorMUt
import Derived.Test.YtilpfpephcngbaaGreatDoorMEs
import Derived.Test.YtilpfpephcngbaaGreatDoorMQo
namespace Go.Mx
open Go Go.Sv Go.Pl Go.Proofs Go.Tb Go.Ut
def subR (a b : List Rat) (y : Rat) : List Rat := (List.range a.length).map fun j => gt a j - gt b j * y
def oneR (h : List Rat) (c : Nat) : List Rat := h.map fun x => x / gt h c
/-- rows k and t changed for each other -/
def swp (m : List (List Rat)) (k t i : Nat) : List Rat := if i = k then gt m t else if i = t then gt m k else gt m i
def redStep (m : List (List Rat)) (k t c : Nat) : List (List Rat) := (List.range m.length).map fun i =>
  if i = k then oneR (gt m t) c else subR (swp m k t i) (oneR (gt m t) c) (gt (swp m k t i) c)
def isPiv (m : List (List Rat)) (c k t : Nat) : Prop := k ≤ t ∧ t < m.length ∧ gt (gt m t) c ≠ 0 ∧ ∀ i, k ≤ i → i < t → gt (gt m i) c = 0
def noPiv (m : List (List Rat)) (c k : Nat) : Prop := ∀ i, k ≤ i → i < m.length → gt (gt m i) c = 0
open Classical in
noncomputable def redS (s : List (List Rat) × List Nat) (c : Nat) : List (List Rat) × List Nat :=
  if s.2.length < s.1.length then
    if h : ∃ t, isPiv s.1 c s.2.length t then (redStep s.1 s.2.length h.choose c, s.2 ++ [c]) else s
  else s
theorem isPiv_uniq {m : List (List Rat)} {c k t t' : Nat} (h : isPiv m c k t) (h' : isPiv m c k t') : t = t' := by
  rcases Nat.lt_trichotomy t t' with g | g | g
  · exact absurd (h'.2.2.2 t h.1 g) h.2.2.1
  · exact g
  · exact absurd (h.2.2.2 t' h'.1 g) h'.2.2.1
theorem redS_piv {s : List (List Rat) × List Nat} {c t : Nat} (hl : s.2.length < s.1.length) (h : isPiv s.1 c s.2.length t) : redS s c = (redStep s.1 s.2.length t c, s.2 ++ [c]) := by
  have hx : ∃ t, isPiv s.1 c s.2.length t := ⟨t, h⟩
  unfold redS
  rw [if_pos hl, dif_pos hx, isPiv_uniq hx.choose_spec h]
theorem redS_none {s : List (List Rat) × List Nat} {c : Nat} (h : noPiv s.1 c s.2.length) : redS s c = s := by
  have hx : ¬ ∃ t, isPiv s.1 c s.2.length t := fun ⟨t, g⟩ => g.2.2.1 (h t g.1 g.2.1)
  unfold redS
  rw [dif_neg hx]; split <;> rfl
theorem redS_full {s : List (List Rat) × List Nat} {c : Nat} (h : ¬ s.2.length < s.1.length) : redS s c = s := by
  unfold redS; rw [if_neg h]
noncomputable def redAt (a : List (List Rat)) : Nat → List (List Rat) × List Nat
  | 0 => (a, [])
  | c + 1 => redS (redAt a c) c
theorem redAt_full {a : List (List Rat)} {c : Nat} (h : ¬ (redAt a c).2.length < (redAt a c).1.length) : ∀ d, redAt a (c + d) = redAt a c
  | 0 => rfl
  | d + 1 => by
    show redS (redAt a (c + d)) (c + d) = _
    rw [redAt_full h d, redS_full h]
/-- a table of n rows, w wide, with numbers of at most so many limbs -/
structure Tw (n w W : Nat) (m : List (List Rat)) : Prop where
  l : m.length = n
  r : ∀ i, i < n → (gt m i).length = w
  q : ∀ i j, i < n → j < w → qw W (gt (gt m i) j)
theorem gt_range {α : Type} [Inhabited α] (f : Nat → α) {n i : Nat} (h : i < n) : gt ((List.range n).map f) i = f i := by simp [gt, h]
@[simp] theorem subR_len (a b : List Rat) (y : Rat) : (subR a b y).length = a.length := by simp [subR]
@[simp] theorem oneR_len (h : List Rat) (c : Nat) : (oneR h c).length = h.length := by simp [oneR]
theorem gt_subR {a b : List Rat} {y : Rat} {j : Nat} (h : j < a.length) : gt (subR a b y) j = gt a j - gt b j * y := by unfold subR; rw [gt_range _ h]
theorem gt_oneR {a : List Rat} {c j : Nat} (h : j < a.length) : gt (oneR a c) j = gt a j / gt a c := by unfold oneR; rw [gt_map _ h]
@[simp] theorem redStep_len (m : List (List Rat)) (k t c : Nat) : (redStep m k t c).length = m.length := by simp [redStep]
theorem gt_redStep {m : List (List Rat)} {k t c i : Nat} (h : i < m.length) : gt (redStep m k t c) i = if i = k then oneR (gt m t) c else subR (swp m k t i) (oneR (gt m t) c) (gt (swp m k t i) c) := by
  unfold redStep; rw [gt_range _ h]
theorem Tw.mono {n w W W' : Nat} {m : List (List Rat)} (h : Tw n w W m) (hw : W ≤ W') : Tw n w W' m := ⟨h.l, h.r, fun i j hi hj => qw_mono (h.q i j hi hj) hw⟩
theorem swp_w {n w W : Nat} {m : List (List Rat)} (h : Tw n w W m) {k t i : Nat} (hk : k < n) (ht : t < n) (hi : i < n) : (swp m k t i).length = w ∧ ∀ j, j < w → qw W (gt (swp m k t i) j) := by
  unfold swp
  split
  · exact ⟨h.r t ht, fun j hj => h.q t j ht hj⟩
  · split
    · exact ⟨h.r k hk, fun j hj => h.q k j hk hj⟩
    · exact ⟨h.r i hi, fun j hj => h.q i j hi hj⟩
theorem one_w {n w W : Nat} {m : List (List Rat)} (h : Tw n w W m) {t c : Nat} (ht : t < n) (hc : c < w) (hW : 1 ≤ W) : (oneR (gt m t) c).length = w ∧ ∀ j, j < w → qw (2 * W) (gt (oneR (gt m t) c) j) := by
  refine ⟨by simp [h.r t ht], fun j hj => ?_⟩
  rw [gt_oneR (by rw [h.r t ht]; exact hj)]
  exact qw_mono (qw_div (h.q t j ht hj) (h.q t c ht hc) hW) (by omega)
theorem sub_w {w W : Nat} {a b : List Rat} {y : Rat} (la : a.length = w) (ha : ∀ j, j < w → qw W (gt a j)) (hb : ∀ j, j < w → qw (2 * W) (gt b j)) (hy : qw W y) (hW : 1 ≤ W) : ∀ j, j < w → qw (5 * W) (gt (subR a b y) j) := fun j hj => by
  rw [gt_subR (by omega)]
  exact qw_mono (qw_sub (ha j hj) (qw_mul (hb j hj) hy (by omega))) (by omega)
theorem Tw.step {n w W : Nat} {m : List (List Rat)} (h : Tw n w W m) {k t c : Nat} (hk : k < n) (ht : t < n) (hc : c < w) (hW : 1 ≤ W) : Tw n w (5 * W) (redStep m k t c) where
  l := by rw [redStep_len, h.l]
  r := fun i hi => by
    rw [gt_redStep (by rw [h.l]; exact hi)]
    split
    · exact (one_w h ht hc hW).1
    · rw [subR_len]; exact (swp_w h hk ht hi).1
  q := fun i j hi hj => by
    rw [gt_redStep (by rw [h.l]; exact hi)]
    split
    · exact qw_mono ((one_w h ht hc hW).2 j hj) (by omega)
    · have s := swp_w h hk ht hi
      exact sub_w s.1 s.2 (one_w h ht hc hW).2 (s.2 c hc) hW j hj
theorem redAt_ok {a : List (List Rat)} {n w : Nat} (h : Tw n w 2200 a) : ∀ c, c ≤ w → Tw n w (2200 * 5 ^ (redAt a c).2.length) (redAt a c).1 ∧ (redAt a c).2.length ≤ n
  | 0, _ => ⟨by simpa [redAt] using h, by simp [redAt]⟩
  | c + 1, hc => by
    obtain ⟨ih, il⟩ := redAt_ok h c (by omega)
    show Tw n w (2200 * 5 ^ (redS (redAt a c) c).2.length) (redS (redAt a c) c).1 ∧ (redS (redAt a c) c).2.length ≤ n
    by_cases hl : (redAt a c).2.length < (redAt a c).1.length
    · by_cases hp : ∃ t, isPiv (redAt a c).1 c (redAt a c).2.length t
      · obtain ⟨t, hp⟩ := hp
        rw [redS_piv hl hp]
        have hn := ih.l
        have := ih.step (k := (redAt a c).2.length) (t := t) (c := c) (by omega) (by have := hp.2.1; omega) (by omega) (by have := Nat.pow_pos (n := (redAt a c).2.length) (show 0 < 5 by omega); omega)
        refine ⟨?_, by simp; omega⟩
        simp only [List.length_append, List.length_cons, List.length_nil, Nat.pow_succ, Nat.zero_add]
        rwa [show 2200 * (5 ^ (redAt a c).2.length * 5) = 5 * (2200 * 5 ^ (redAt a c).2.length) by omega]
      · have : redS (redAt a c) c = redAt a c := by unfold redS; rw [dif_neg hp]; split <;> rfl
        rw [this]; exact ⟨ih, il⟩
    · rw [redS_full hl]; exact ⟨ih, il⟩
theorem pow5_le {e n : Nat} (h : e ≤ n) (hn : n ≤ 6) : 2200 * 5 ^ e ≤ 34375000 := by
  have : 5 ^ e ≤ 5 ^ 6 := Nat.pow_le_pow_right (by omega) (by omega)
  omega
theorem usesL_tk {α : Type} (k i : Nat) (f : α → SV) (l : List α) : SV.usesL k ((l.map f).take i) = (l.take i).any fun x => (f x).uses k := by
  rw [← List.map_take, usesL_map]
theorem pureL_tk {α : Type} (i : Nat) (f : α → SV) (l : List α) : SV.pureL ((l.map f).take i) = (l.take i).all fun x => (f x).pure := by
  rw [← List.map_take, pureL_map]
theorem ltL_tk {α : Type} (k i : Nat) (f : α → SV) (l : List α) : SV.ltL k ((l.map f).take i) = (l.take i).all fun x => (f x).lt k := by
  rw [← List.map_take, ltL_map]
attribute [simp] usesL_map usesL_tk pureL_tk ltL_tk
theorem take1 {α : Type} [Inhabited α] (f : α → SV) {l : List α} {i : Nat} (h : i < l.length) : (l.map f).take (i + 1) = (l.map f).take i ++ [f (gt l i)] := by
  rw [← List.map_take, take_gt h]; simp
end Go.Mx

