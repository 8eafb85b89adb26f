/- Puzzles: what a constraint lets stand, that less is let stand where less is left, and that what is left in the end does not hang on the order. A text of the prover's own; it names no program. -/
import Derived.Test.YtadkomdooleipaaGreatDoorKAa
import Derived.Test.YtadkomdooleipaaGreatDoorKAb
namespace Go.Fn
open Go Go.Tb Go.Ut
structure Con where
  kind : Int
  vars : List Int
  nums : List Int
  uses : List Int
  limit : Int
  rows : List (List Int)
instance : Inhabited Con := ⟨⟨0, [], [], [], 0, []⟩⟩
structure Puz where
  values : List (List Int)
  cons : List Con
abbrev Lf := List (List Int)
/-- the list of the variable at a place of a constraint -/
def lk (c : Con) (L : Lf) (k : Nat) : List Int := gt L (gt c.vars k).toNat
def low (l : List Int) : Int := gt l 0
def high (l : List Int) : Int := gt l (l.length - 1)
def sumN (f : Nat → Int) : Nat → Int
  | 0 => 0
  | n + 1 => sumN f n + f n
theorem sumN_le {f g : Nat → Int} : ∀ {n : Nat}, (∀ k, k < n → f k ≤ g k) → sumN f n ≤ sumN g n
  | 0, _ => Int.le_refl _
  | n + 1, h => by
    have := sumN_le (f := f) (g := g) (n := n) fun k hk => h k (by omega)
    have := h n (by omega)
    simp only [sumN]; omega
theorem sumN_eq {f g : Nat → Int} : ∀ {n : Nat}, (∀ k, k < n → f k = g k) → sumN f n = sumN g n
  | 0, _ => rfl
  | n + 1, h => by simp only [sumN]; rw [sumN_eq fun k hk => h k (by omega), h n (by omega)]
theorem sumN_one {f g : Nat → Int} {i : Nat} (hg : ∀ k, k ≠ i → g k = f k) : ∀ {n : Nat}, sumN f n = sumN g n + if i < n then f i - g i else 0
  | 0 => by simp [sumN]
  | n + 1 => by
    simp only [sumN]
    rw [sumN_one hg (n := n)]
    by_cases e : n = i
    · subst e; simp; omega
    · rw [hg n e]
      by_cases h : i < n
      · simp [h, show i < n + 1 by omega]; omega
      · simp [h, show ¬ i < n + 1 by omega]
def lowS (c : Con) (L : Lf) (i n : Nat) : Int := sumN (fun k => if k = i then 0 else min (gt c.nums k * low (lk c L k)) (gt c.nums k * high (lk c L k))) n
def highS (c : Con) (L : Lf) (i n : Nat) : Int := sumN (fun k => if k = i then 0 else max (gt c.nums k * low (lk c L k)) (gt c.nums k * high (lk c L k))) n
/-- must it run at a moment? -/
def Runs (c : Con) (L : Lf) (m : Int) (k : Nat) : Prop := high (lk c L k) ≤ m ∧ m < low (lk c L k) + gt c.nums k
instance {c : Con} {L : Lf} {m : Int} {k : Nat} : Decidable (Runs c L m k) := by unfold Runs; infer_instance
def useS (c : Con) (L : Lf) (i : Nat) (m : Int) (n : Nat) : Int := sumN (fun k => if k ≠ i ∧ Runs c L m k then gt c.uses k else 0) n
/-- a moment at which something begins at the latest while this one runs -/
def Moment (c : Con) (L : Lf) (i : Nat) (v m : Int) : Prop := m = v ∨ ∃ k, k < c.vars.length ∧ k ≠ i ∧ m = high (lk c L k) ∧ v < m ∧ m < v + gt c.nums i
def PartM (c : Con) (L : Lf) (i : Nat) (v : Int) : Nat → List Int := fun x => if x = i then [v] else if x < c.vars.length then lk c L x else []
def RowM (c : Con) (L : Lf) (i : Nat) (v : Int) : Prop := ∃ r ∈ c.rows, gt r i = v ∧ ∀ k, k < c.vars.length → gt r k ∈ lk c L k ∧ ∀ t, t < k → gt c.vars t = gt c.vars k → gt r t = gt r k
def PlcM (c : Con) (L : Lf) (i : Nat) (v : Int) : Prop :=
  if i = 0 then 0 ≤ v ∧ v < (c.vars.length : Int) - 2 ∧ ∃ w ∈ lk c L (2 + v.toNat), w ∈ lk c L 1
  else if i = 1 then ∃ a ∈ lk c L 0, 0 ≤ a ∧ a < (c.vars.length : Int) - 2 ∧ v ∈ lk c L (2 + a.toNat)
  else lk c L 0 = [(i : Int) - 2] → v ∈ lk c L 1
def ShrM (c : Con) (L : Lf) (i : Nat) (v : Int) : Prop := gt c.nums i = 0 ∨ gt c.uses i = 0 ∨ ∀ m, Moment c L i v m → gt c.uses i + useS c L i m c.vars.length ≤ c.limit
/-- can the variable at a place be v, by the lists as they are? -/
def May (c : Con) (L : Lf) (i : Nat) (v : Int) : Prop :=
  if c.kind = 1 then Parts (PartM c L i v) c.vars.length
  else if c.kind = 2 then lowS c L i c.vars.length ≤ c.limit - gt c.nums i * v ∧ c.limit - gt c.nums i * v ≤ highS c L i c.vars.length
  else if c.kind = 3 then RowM c L i v
  else if c.kind = 4 then PlcM c L i v
  else ShrM c L i v
/-- what a constraint of n variables has -/
structure ConOK (n : Nat) (c : Con) : Prop where
  vl : c.vars.length ≤ 8
  va : ∀ k, k < c.vars.length → 0 ≤ gt c.vars k ∧ gt c.vars k < n
  kd : 1 ≤ c.kind ∧ c.kind ≤ 5
  nu : ∀ k, k < c.nums.length → -100000000 ≤ gt c.nums k ∧ gt c.nums k ≤ 100000000
  us : ∀ k, k < c.uses.length → -100000000 ≤ gt c.uses k ∧ gt c.uses k ≤ 100000000
  li : -100000000 ≤ c.limit ∧ c.limit ≤ 100000000
  k2 : c.kind = 2 → c.nums.length = c.vars.length
  k3 : c.kind = 3 → ∀ r ∈ c.rows, r.length = c.vars.length
  k4 : c.kind = 4 → 2 ≤ c.vars.length
  l5 : c.kind = 5 → 0 ≤ c.limit
  k5 : c.kind = 5 → c.nums.length = c.vars.length ∧ c.uses.length = c.vars.length ∧ ∀ k, k < c.vars.length → 0 ≤ gt c.nums k ∧ 0 ≤ gt c.uses k
theorem ConOK.at {n : Nat} {c : Con} (h : ConOK n c) {k : Nat} (hk : k < c.vars.length) : (gt c.vars k).toNat < n := by have := h.va k hk; omega
/-! ascending lists -/
abbrev Asc (l : List Int) : Prop := l.Pairwise (· < ·)
theorem asc_lt {l : List Int} (h : Asc l) {i j : Nat} (hij : i < j) (hj : j < l.length) : gt l i < gt l j := by
  rw [← gt_get hj, ← gt_get (show i < l.length by omega)]
  exact List.pairwise_iff_getElem.1 h i j (by omega) hj hij
theorem asc_le {l : List Int} (h : Asc l) {i j : Nat} (hij : i ≤ j) (hj : j < l.length) : gt l i ≤ gt l j := by
  rcases Nat.lt_or_eq_of_le hij with q | q
  · exact Int.le_of_lt (asc_lt h q hj)
  · subst q; exact Int.le_refl _
theorem mem_gt {l : List Int} {v : Int} (h : v ∈ l) : ∃ i, i < l.length ∧ gt l i = v := by
  obtain ⟨i, hi, e⟩ := List.getElem_of_mem h
  exact ⟨i, hi, by rw [← gt_get hi]; exact e⟩
theorem low_le {l : List Int} (h : Asc l) {v : Int} (hv : v ∈ l) : low l ≤ v := by
  obtain ⟨i, hi, rfl⟩ := mem_gt hv
  exact asc_le h (by omega) hi
theorem le_high {l : List Int} (h : Asc l) {v : Int} (hv : v ∈ l) : v ≤ high l := by
  obtain ⟨i, hi, rfl⟩ := mem_gt hv
  exact asc_le h (by omega) (by omega)
theorem low_mem {l : List Int} (h : l ≠ []) : low l ∈ l := gt_mem (by have := List.length_pos_iff.2 h; omega)
theorem high_mem {l : List Int} (h : l ≠ []) : high l ∈ l := gt_mem (by have := List.length_pos_iff.2 h; omega)
/-! lists of lists -/
/-- each of a family's lists within another's -/
structure FLe (F L : Lf) : Prop where
  len : F.length = L.length
  mem : ∀ k, k < L.length → ∀ v ∈ gt F k, v ∈ gt L k
theorem FLe.refl (L : Lf) : FLe L L := ⟨rfl, fun _ _ _ h => h⟩
theorem FLe.trans {A B C : Lf} (h : FLe A B) (k : FLe B C) : FLe A C := ⟨h.len.trans k.len, fun i hi v hv => k.mem i hi v (h.mem i (by rw [k.len]; exact hi) v hv)⟩
def NE (L : Lf) : Prop := ∀ k, k < L.length → gt L k ≠ []
def AscL (L : Lf) : Prop := ∀ k, k < L.length → Asc (gt L k)
theorem NE.up {F L : Lf} (h : NE F) (hl : FLe F L) : NE L := fun k hk e => by
  have hk' : k < F.length := by rw [hl.len]; exact hk
  have h0 := h k hk'
  have := hl.mem k hk _ (low_mem h0)
  rw [e] at this; simp at this
/-- does a family keep what a constraint lets stand? -/
def CnsC (c : Con) (F : Lf) : Prop := ∀ i, i < c.vars.length → ∀ v ∈ lk c F i, May c F i v
def Cns (p : Puz) (F : Lf) : Prop := ∀ c ∈ p.cons, CnsC c F
section
variable {n : Nat} {c : Con} {F L : Lf}
theorem mul_between {a l h x : Int} (h1 : l ≤ x) (h2 : x ≤ h) : min (a * l) (a * h) ≤ a * x ∧ a * x ≤ max (a * l) (a * h) := by
  rcases Int.le_total 0 a with q | q
  · have := Int.mul_le_mul_of_nonneg_left h1 q
    have := Int.mul_le_mul_of_nonneg_left h2 q
    omega
  · have := Int.mul_le_mul_of_nonpos_left q h1
    have := Int.mul_le_mul_of_nonpos_left q h2
    omega
theorem min_mono {a l h l' h' : Int} (h1 : l ≤ l') (h2 : h' ≤ h) (h3 : l' ≤ h') : min (a * l) (a * h) ≤ min (a * l') (a * h') ∧ max (a * l') (a * h') ≤ max (a * l) (a * h) := by
  have x := mul_between (a := a) (l := l) (h := h) (x := l') h1 (by omega)
  have y := mul_between (a := a) (l := l) (h := h) (x := h') (by omega) h2
  omega
/-- where less is left, less may stand -/
theorem may_mono (hc : ConOK n c) (hn : L.length = n) (hF : AscL F) (hL : AscL L) (ne : NE F) (hl : FLe F L) {i : Nat} (hi : i < c.vars.length) {v : Int} (h : May c F i v) : May c L i v := by
  have hlk : ∀ k, k < c.vars.length → (∀ w ∈ lk c F k, w ∈ lk c L k) ∧ lk c F k ≠ [] ∧ Asc (lk c F k) ∧ Asc (lk c L k) := fun k hk => by
    have := hc.at hk
    have h2 : (gt c.vars k).toNat < F.length := by rw [hl.len, hn]; exact this
    exact ⟨hl.mem _ (by omega), ne _ h2, hF _ h2, hL _ (by omega)⟩
  have hlo : ∀ k, k < c.vars.length → low (lk c L k) ≤ low (lk c F k) ∧ high (lk c F k) ≤ high (lk c L k) := fun k hk => by
    obtain ⟨a, b, d, e⟩ := hlk k hk
    exact ⟨low_le e (a _ (low_mem b)), le_high e (a _ (high_mem b))⟩
  have hlh : ∀ k, k < c.vars.length → low (lk c F k) ≤ high (lk c F k) := fun k hk => by
    obtain ⟨a, b, d, e⟩ := hlk k hk
    exact low_le d (high_mem b)
  unfold May at h ⊢
  split
  · rename_i e; rw [if_pos e] at h
    refine h.mono fun j hj w hw => ?_
    unfold PartM at hw ⊢
    rw [if_pos hj]
    split
    · rename_i e; rw [if_pos e] at hw; exact hw
    · rename_i e; rw [if_neg e, if_pos hj] at hw; exact (hlk j hj).1 w hw
  rename_i e1; rw [if_neg e1] at h
  split
  · rename_i e; rw [if_pos e] at h
    obtain ⟨h1, h2⟩ := h
    refine ⟨Int.le_trans (sumN_le fun k hk => ?_) h1, Int.le_trans h2 (sumN_le fun k hk => ?_)⟩
    · split
      · exact Int.le_refl _
      · exact (min_mono (hlo k hk).1 (hlo k hk).2 (hlh k hk)).1
    · split
      · exact Int.le_refl _
      · exact (min_mono (hlo k hk).1 (hlo k hk).2 (hlh k hk)).2
  rename_i e2; rw [if_neg e2] at h
  split
  · rename_i e; rw [if_pos e] at h
    obtain ⟨r, r1, r2, r3⟩ := h
    exact ⟨r, r1, r2, fun k hk => ⟨(hlk k hk).1 _ (r3 k hk).1, (r3 k hk).2⟩⟩
  rename_i e3; rw [if_neg e3] at h
  split
  · rename_i e; rw [if_pos e] at h
    have l2 := hc.k4 e
    unfold PlcM at h ⊢
    split
    · rename_i q; rw [if_pos q] at h
      obtain ⟨h1, h2, w, h3, h4⟩ := h
      exact ⟨h1, h2, w, (hlk _ (by omega)).1 w h3, (hlk _ (by omega)).1 w h4⟩
    rename_i q; rw [if_neg q] at h
    split
    · rename_i q; rw [if_pos q] at h
      obtain ⟨a, h1, h2, h3, h4⟩ := h
      exact ⟨a, (hlk _ (by omega)).1 a h1, h2, h3, (hlk _ (by omega)).1 v h4⟩
    rename_i q'; rw [if_neg q'] at h
    intro h0
    refine (hlk _ (by omega)).1 v (h ?_)
    obtain ⟨a, b, d, -⟩ := hlk 0 (by omega)
    rw [h0] at a
    match hm : lk c F 0, b with
    | [x], _ =>
      have := a x (by rw [hm]; simp)
      simp at this; rw [this]
    | x :: y :: r, _ =>
      rw [hm] at a d
      have h1 := a x (by simp)
      have h2 := a y (by simp)
      have := (List.pairwise_cons.1 d).1 y (by simp)
      simp at h1 h2; omega
  rename_i e4; rw [if_neg e4] at h
  have e5 : c.kind = 5 := by have := hc.kd; omega
  obtain ⟨k1, k2, k3⟩ := hc.k5 e5
  rcases h with h | h | h
  · exact .inl h
  · exact .inr (.inl h)
  refine .inr (.inr fun m hm => ?_)
  have hm' : v ≤ m ∧ (m = v ∨ m < v + gt c.nums i) := by
    rcases hm with rfl | ⟨k, _, _, _, q1, q2⟩
    · exact ⟨Int.le_refl _, .inl rfl⟩
    · exact ⟨by omega, .inr q2⟩
  -- the latest of those that must run
  have key : ∀ N, N ≤ c.vars.length → ∃ m', v ≤ m' ∧ m' ≤ m ∧ (m' = v ∨ ∃ k, k < c.vars.length ∧ k ≠ i ∧ m' = high (lk c F k)) ∧ ∀ k, k < N → k ≠ i → Runs c L m k → high (lk c F k) ≤ m' := by
    intro N
    induction N with
    | zero => exact fun _ => ⟨v, Int.le_refl _, hm'.1, .inl rfl, fun k hk => by omega⟩
    | succ N ih =>
      intro hN
      obtain ⟨m', a1, a2, a3, a4⟩ := ih (by omega)
      by_cases hr : N ≠ i ∧ Runs c L m N ∧ m' < high (lk c F N)
      · have := (hlo N (by omega)).2
        have := hr.2.1.1
        refine ⟨high (lk c F N), by omega, by omega, .inr ⟨N, by omega, hr.1, rfl⟩, fun k hk hki hrk => ?_⟩
        by_cases e : k = N
        · subst e; exact Int.le_refl _
        · have := a4 k (by omega) hki hrk; omega
      · refine ⟨m', a1, a2, a3, fun k hk hki hrk => ?_⟩
        by_cases e : k = N
        · subst e
          rcases Int.lt_or_le m' (high (lk c F k)) with q | q
          · exact absurd ⟨hki, hrk, q⟩ hr
          · exact q
        · exact a4 k (by omega) hki hrk
  obtain ⟨m', a1, a2, a3, a4⟩ := key c.vars.length (Nat.le_refl _)
  have hmom : Moment c F i v m' := by
    rcases Int.lt_or_le v m' with q | q
    · rcases a3 with rfl | ⟨k, q1, q2, q3⟩
      · omega
      · exact .inr ⟨k, q1, q2, q3, q, by omega⟩
    · exact .inl (by omega)
  have h2 := h m' hmom
  have : useS c L i m c.vars.length ≤ useS c F i m' c.vars.length := by
    refine sumN_le fun k hk => ?_
    by_cases hr : k ≠ i ∧ Runs c L m k
    · rw [if_pos hr, if_pos ⟨hr.1, a4 k hk hr.1 hr.2, by have := (hlo k hk).1; have := hr.2.2; omega⟩]
      exact Int.le_refl _
    · rw [if_neg hr]
      split
      · exact (k3 k hk).2
      · exact Int.le_refl _
  omega
end
/-! what goes -/
def size (L : Lf) : Nat := (L.map List.length).sum
/-- lists from which only such values went as no family keeps -/
structure Cut (c : Con) (L L' : Lf) : Prop where
  len : L'.length = L.length
  sub : ∀ k, k < L.length → (gt L' k).Sublist (gt L k)
  fam : ∀ F, AscL F → NE F → FLe F L → CnsC c F → FLe F L'
theorem Cut.refl (c : Con) (L : Lf) : Cut c L L := ⟨rfl, fun _ _ => List.Sublist.refl _, fun _ _ _ h _ => h⟩
theorem Cut.trans {c : Con} {A B C : Lf} (h : Cut c A B) (k : Cut c B C) : Cut c A C := ⟨k.len.trans h.len, fun i hi => (k.sub i (by rw [h.len]; exact hi)).trans (h.sub i hi), fun F a b d e => k.fam F a b (h.fam F a b d e) e⟩
theorem asc_sub {L L' : Lf} (h : AscL L) (hl : L'.length = L.length) (hs : ∀ k, k < L.length → (gt L' k).Sublist (gt L k)) : AscL L' := fun k hk => List.Pairwise.sublist (hs k (by omega)) (h k (by omega))
theorem size_le : ∀ {L L' : Lf}, L'.length = L.length → (∀ k, k < L.length → (gt L' k).Sublist (gt L k)) → size L' ≤ size L ∧ (size L' = size L → L' = L)
  | [], [], _, _ => ⟨Nat.le_refl _, fun _ => rfl⟩
  | [], _ :: _, h, _ => by simp at h
  | _ :: _, [], h, _ => by simp at h
  | a :: L, b :: L', h, hs => by
    have h0 := hs 0 (by simp)
    have hs' : ∀ k, k < L.length → (gt L' k).Sublist (gt L k) := fun k hk => by simpa [gt] using hs (k + 1) (by simpa using hk)
    obtain ⟨i1, i2⟩ := size_le (L := L) (L' := L') (by simpa using h) hs'
    have h0' : b.Sublist a := by simpa [gt] using h0
    have hl := h0'.length_le
    simp only [size, List.map_cons, List.sum_cons] at i1 i2 ⊢
    refine ⟨by omega, fun e => ?_⟩
    rw [i2 (by omega), h0'.eq_of_length_le (by omega)]
theorem Cut.asc {c : Con} {L L' : Lf} (h : Cut c L L') (ha : AscL L) : AscL L' := asc_sub ha h.len h.sub
theorem Cut.size {c : Con} {L L' : Lf} (h : Cut c L L') : size L' ≤ size L := (size_le h.len h.sub).1
theorem gt_setL {L : Lf} {k j : Nat} {l : List Int} (hj : j < L.length) : gt (L.set k l) j = if k = j then l else gt L j := gt_set hj
theorem cut_keep {c : Con} {L : Lf} {k : Nat} (hk : k < L.length) (f : Int → Bool) (h : ∀ F, AscL F → NE F → FLe F L → CnsC c F → ∀ v ∈ gt F k, f v = true) : Cut c L (L.set k ((gt L k).filter f)) where
  len := by simp
  sub := fun j hj => by
    rw [gt_setL hj]
    split
    · rename_i e; subst e; exact List.filter_sublist
    · exact List.Sublist.refl _
  fam := fun F a b d e => ⟨by rw [d.len]; simp, fun j hj v hv => by
    have hj' : j < L.length := by simpa using hj
    rw [gt_setL hj']
    split
    · rename_i q; subst q; exact List.mem_filter.2 ⟨d.mem k hj' v hv, h F a b d e v hv⟩
    · exact d.mem j hj' v hv⟩
theorem size_keep {L : Lf} {k : Nat} (hk : k < L.length) (f : Int → Bool) : (((gt L k).filter f).length < (gt L k).length → size (L.set k ((gt L k).filter f)) < size L) ∧ (¬ ((gt L k).filter f).length < (gt L k).length → L.set k ((gt L k).filter f) = L ∧ ∀ v ∈ gt L k, f v = true) := by
  have hs := size_le (L := L) (L' := L.set k ((gt L k).filter f)) (by simp) fun j hj => by
    rw [gt_setL hj]
    split
    · rename_i e; subst e; exact List.filter_sublist
    · exact List.Sublist.refl _
  have hle := List.length_filter_le f (gt L k)
  refine ⟨fun h => ?_, fun h => ?_⟩
  · rcases Nat.lt_or_eq_of_le hs.1 with q | q
    · exact q
    · have := congrArg (fun M => (gt M k).length) (hs.2 q)
      simp only [gt_setL hk, if_true] at this
      omega
  · have e : (gt L k).filter f = gt L k := List.filter_sublist.eq_of_length_le (by omega)
    refine ⟨?_, fun v hv => ?_⟩
    · rw [e]
      refine ext_gt' (by simp) fun j hj => ?_
      have hj' : j < L.length := by simpa using hj
      rw [gt_setL hj']; split
      · rename_i q; rw [q]
      · rfl
    · rw [← e] at hv; exact (List.mem_filter.1 hv).2
/-- what a constraint does to the lists once -/
structure Rule (c : Con) (L L' : Lf) (ag : Bool) : Prop where
  cut : Cut c L L'
  yes : ag = true → size L' < size L
  no : ag = false → L' = L ∧ CnsC c L
/-- what is left, and whether no list is empty -/
structure Nar (p : Puz) (L L' : Lf) (ok : Bool) : Prop where
  len : L'.length = L.length
  sub : ∀ k, k < L.length → (gt L' k).Sublist (gt L k)
  fam : ∀ F, AscL F → NE F → FLe F L → Cns p F → FLe F L'
  yes : ok = true → NE L' ∧ Cns p L'
  no : ok = false → ¬ NE L'
end Go.Fn

