/- Puzzles: which are ones, and which values keep them, in plain Lean. A text of the prover's own; it names no program. -/
import Derived.Test.YtadkomdooleipaaGreatDoorKAc
namespace Go.Fn
open Go Go.Tb Go.Ut
def badN (v : Int) : Bool := decide (v < -100000000) || decide (100000000 < v)
theorem badN_no {v : Int} (h : badN v = false) : -100000000 ≤ v ∧ v ≤ 100000000 := by
  simp only [badN, Bool.or_eq_false_iff, decide_eq_false_iff_not] at h; omega
/-- 0, or what is wrong with a list, behind what stands ahead of it -/
def vL : Option Int → List Int → Nat
  | _, [] => 0
  | p, v :: r => if badN v = true then 2 else match p with
    | none => vL (some v) r
    | some q => if v ≤ q then 4 else vL (some v) r
def vLs : List (List Int) → Nat
  | [] => 0
  | l :: r => if vL none l = 0 then vLs r else vL none l
def badR (c : Con) : Bool := c.rows.any fun r => r.any badN
def badV (n : Nat) (c : Con) : Bool := c.vars.any fun v => decide (v < 0) || decide ((n : Int) ≤ v)
def formB (c : Con) : Bool :=
  if c.kind = 1 then decide (c.nums.length = 0 ∧ c.uses.length = 0 ∧ c.rows.length = 0 ∧ c.limit = 0)
  else if c.kind = 2 then decide (c.nums.length = c.vars.length ∧ c.uses.length = 0 ∧ c.rows.length = 0) && !c.nums.any (fun v => decide (v = 0))
  else if c.kind = 3 then decide (c.nums.length = 0 ∧ c.uses.length = 0 ∧ c.limit = 0) && c.rows.all fun r => decide (r.length = c.vars.length)
  else if c.kind = 4 then decide (2 ≤ c.vars.length ∧ c.nums.length = 0 ∧ c.uses.length = 0 ∧ c.rows.length = 0 ∧ c.limit = 0)
  else if c.kind = 5 then decide (c.nums.length = c.vars.length ∧ c.uses.length = c.vars.length ∧ c.rows.length = 0 ∧ 0 ≤ c.limit) && ((List.range c.vars.length).all fun i => decide (0 ≤ gt c.nums i) && decide (0 ≤ gt c.uses i))
  else false
def vC (n : Nat) (c : Con) : Nat := if (badN c.limit || c.nums.any badN || c.uses.any badN || badR c) = true then 2 else if badV n c = true then 4 else if formB c = true then 0 else 4
def vCs (n : Nat) : List Con → Nat
  | [] => 0
  | c :: r => if vC n c = 0 then vCs n r else vC n c
def vPuz (p : Puz) : Nat := if vLs p.values = 0 then vCs p.values.length p.cons else vLs p.values
/-- a puzzle no greater than what is spoken of -/
structure FewC (c : Con) : Prop where
  v : c.vars.length ≤ 8
  n : c.nums.length ≤ 8
  u : c.uses.length ≤ 8
  r : c.rows.length ≤ 12
  l : ∀ r ∈ c.rows, r.length ≤ 8
structure FewP (p : Puz) : Prop where
  v : p.values.length ≤ 6
  c : p.cons.length ≤ 8
  l : ∀ l ∈ p.values, l.length ≤ 12
  k : ∀ c ∈ p.cons, FewC c
theorem vL_cases : ∀ (l : List Int) (p : Option Int), vL p l = 0 ∨ vL p l = 2 ∨ vL p l = 4
  | [], p => .inl rfl
  | v :: r, p => by
    unfold vL
    split
    · exact .inr (.inl rfl)
    · split
      · exact vL_cases r _
      · split
        · exact .inr (.inr rfl)
        · exact vL_cases r _
theorem vLs_cases : ∀ l : List (List Int), vLs l = 0 ∨ vLs l = 2 ∨ vLs l = 4
  | [] => .inl rfl
  | l :: r => by
    unfold vLs; split
    · exact vLs_cases r
    · exact vL_cases l _
theorem vC_cases (n : Nat) (c : Con) : vC n c = 0 ∨ vC n c = 2 ∨ vC n c = 4 := by
  unfold vC
  repeat' split
  all_goals omega
theorem vCs_cases (n : Nat) : ∀ l : List Con, vCs n l = 0 ∨ vCs n l = 2 ∨ vCs n l = 4
  | [] => .inl rfl
  | c :: r => by
    unfold vCs; split
    · exact vCs_cases n r
    · exact vC_cases n c
theorem vPuz_cases (p : Puz) : vPuz p = 0 ∨ vPuz p = 2 ∨ vPuz p = 4 := by
  unfold vPuz; split
  · exact vCs_cases _ _
  · exact vLs_cases _
/-! what a puzzle has that is one -/
theorem vL_ok : ∀ {l : List Int} {p : Option Int}, vL p l = 0 → Asc l ∧ (∀ v ∈ l, -100000000 ≤ v ∧ v ≤ 100000000) ∧ ∀ q, p = some q → ∀ v ∈ l, q < v
  | [], p, _ => ⟨by simp, by simp, by simp⟩
  | v :: r, p, h => by
    unfold vL at h
    split at h
    · omega
    · rename_i hb
      have hb' := badN_no (v := v) (by simpa using hb)
      have key : vL (some v) r = 0 ∧ ∀ q, p = some q → q < v := by
        cases p with
        | none => exact ⟨h, fun q e => by cases e⟩
        | some q =>
          simp only at h
          split at h
          · omega
          · exact ⟨h, fun q' e => by cases e; omega⟩
      obtain ⟨h1, h2, h3⟩ := vL_ok key.1
      refine ⟨List.pairwise_cons.2 ⟨h3 v rfl, h1⟩, fun w hw => ?_, fun q e w hw => ?_⟩
      · rcases List.mem_cons.1 hw with rfl | hw
        · exact hb'
        · exact h2 w hw
      · have := key.2 q e
        rcases List.mem_cons.1 hw with rfl | hw
        · exact this
        · have := h3 v rfl w hw; omega
theorem vLs_ok : ∀ {l : List (List Int)}, vLs l = 0 → ∀ k, k < l.length → Asc (gt l k) ∧ ∀ v ∈ gt l k, -100000000 ≤ v ∧ v ≤ 100000000
  | [], _, k, hk => by simp at hk
  | l :: r, h, k, hk => by
    unfold vLs at h
    split at h
    · rename_i h0
      cases k with
      | zero => exact ⟨(vL_ok h0).1, (vL_ok h0).2.1⟩
      | succ k => exact vLs_ok h k (by simpa using hk)
    · rename_i h0; exact absurd h h0
theorem vC_ok {n : Nat} {c : Con} (hf : FewC c) (h : vC n c = 0) : ConOK n c := by
  unfold vC at h
  split at h
  · omega
  rename_i h1
  split at h
  · omega
  rename_i h2
  split at h
  · rename_i h3
    simp only [Bool.not_eq_true, Bool.or_eq_false_iff] at h1
    obtain ⟨⟨⟨a1, a2⟩, a3⟩, a4⟩ := h1
    have num : ∀ l : List Int, l.any badN = false → ∀ k, k < l.length → -100000000 ≤ gt l k ∧ gt l k ≤ 100000000 := fun l hl k hk => badN_no (by
      have := List.any_eq_false.1 hl _ (gt_mem hk); simpa using this)
    have va : ∀ k, k < c.vars.length → 0 ≤ gt c.vars k ∧ gt c.vars k < n := fun k hk => by
      have := List.any_eq_false.1 (show badV n c = false by simpa using h2) _ (gt_mem hk)
      simp only [Bool.or_eq_true, decide_eq_true_eq] at this; omega
    have kd : 1 ≤ c.kind ∧ c.kind ≤ 5 := by
      unfold formB at h3; repeat' split at h3
      all_goals first | omega | cases h3
    refine ⟨hf.v, va, kd, num _ a2, num _ a3, badN_no a1, fun e => ?_, fun e => ?_, fun e => ?_, fun e => ?_, fun e => ?_⟩
    · unfold formB at h3
      rw [if_neg (by omega), if_pos e] at h3
      simp only [Bool.and_eq_true, decide_eq_true_eq] at h3
      exact h3.1.1
    · unfold formB at h3
      rw [if_neg (by omega), if_neg (by omega), if_pos e] at h3
      simp only [Bool.and_eq_true, decide_eq_true_eq, List.all_eq_true] at h3
      exact h3.2
    · unfold formB at h3
      rw [if_neg (by omega), if_neg (by omega), if_neg (by omega), if_pos e] at h3
      simp only [decide_eq_true_eq] at h3
      exact h3.1
    · unfold formB at h3
      rw [if_neg (by omega), if_neg (by omega), if_neg (by omega), if_neg (by omega), if_pos e] at h3
      simp only [Bool.and_eq_true, decide_eq_true_eq, List.all_eq_true, List.mem_range] at h3
      exact h3.1.2.2.2
    · unfold formB at h3
      rw [if_neg (by omega), if_neg (by omega), if_neg (by omega), if_neg (by omega), if_pos e] at h3
      simp only [Bool.and_eq_true, decide_eq_true_eq, List.all_eq_true, List.mem_range] at h3
      exact ⟨h3.1.1, h3.1.2.1, fun k hk => h3.2 k hk⟩
  · omega
theorem vCs_ok {n : Nat} : ∀ {l : List Con}, vCs n l = 0 → ∀ c ∈ l, vC n c = 0
  | [], _, c, hc => by simp at hc
  | d :: r, h, c, hc => by
    unfold vCs at h
    split at h
    · rename_i h0
      rcases List.mem_cons.1 hc with rfl | hc
      · exact h0
      · exact vCs_ok h c hc
    · rename_i h0; exact absurd h h0
structure PuzOK (p : Puz) : Prop where
  few : FewP p
  asc : AscL p.values
  val : ∀ k, k < p.values.length → ∀ v ∈ gt p.values k, -100000000 ≤ v ∧ v ≤ 100000000
  con : ∀ c ∈ p.cons, ConOK p.values.length c
theorem puz_ok {p : Puz} (hf : FewP p) (h : vPuz p = 0) : PuzOK p := by
  unfold vPuz at h
  split at h
  · rename_i h0
    exact ⟨hf, fun k hk => (vLs_ok h0 k hk).1, fun k hk => (vLs_ok h0 k hk).2, fun c hc => vC_ok (hf.k c hc) (vCs_ok h c hc)⟩
  · rename_i h0; exact absurd h h0
/-! which values keep it -/
def dotN (c : Con) (v : List Int) (n : Nat) : Int := sumN (fun i => gt c.nums i * gt v i) n
/-- how much is used at a moment -/
def useV (c : Con) (v : List Int) (m : Int) (n : Nat) : Int := sumN (fun k => if gt v k ≤ m ∧ m < gt v k + gt c.nums k then gt c.uses k else 0) n
def keptP (c : Con) (v : List Int) : Prop :=
  if c.kind = 1 then v.Nodup
  else if c.kind = 2 then dotN c v v.length = c.limit
  else if c.kind = 3 then v ∈ c.rows
  else if c.kind = 4 then 0 ≤ gt v 0 ∧ gt v 0 < (v.length : Int) - 2 ∧ gt v (2 + (gt v 0).toNat) = gt v 1
  else ∀ i, i < v.length → gt c.nums i ≠ 0 → gt c.uses i ≠ 0 → useV c v (gt v i) v.length ≤ c.limit
def argsOf (c : Con) (x : List Int) : List Int := c.vars.map fun k => gt x k.toNat
structure KeepsP (p : Puz) (x : List Int) : Prop where
  mem : ∀ i, i < x.length → gt x i ∈ gt p.values i
  con : ∀ c ∈ p.cons, keptP c (argsOf c x)
/-- the document's way of looking at what runs -/
theorem shared_iff {n : Nat} {c : Con} (hc : ConOK n c) (h5 : c.kind = 5) {v : List Int} (hv : v.length = c.vars.length) :
    (∀ i, i < v.length → gt c.nums i ≠ 0 → gt c.uses i ≠ 0 → useV c v (gt v i) v.length ≤ c.limit) ↔ ∀ i, i < v.length → 0 < gt c.nums i → useV c v (gt v i) v.length ≤ c.limit := by
  obtain ⟨k1, k2, k3⟩ := hc.k5 h5
  constructor
  · intro h i hi hn
    -- the latest that runs and uses some
    by_cases hex : ∃ j, j < v.length ∧ gt v j ≤ gt v i ∧ gt v i < gt v j + gt c.nums j ∧ gt c.uses j ≠ 0
    · have key : ∀ N, N ≤ v.length → (∃ j, j < N ∧ gt v j ≤ gt v i ∧ gt v i < gt v j + gt c.nums j ∧ gt c.uses j ≠ 0) →
          ∃ j, j < v.length ∧ gt v j ≤ gt v i ∧ gt v i < gt v j + gt c.nums j ∧ gt c.uses j ≠ 0 ∧ ∀ k, k < N → gt v k ≤ gt v i → gt v i < gt v k + gt c.nums k → gt c.uses k ≠ 0 → gt v k ≤ gt v j := by
        intro N
        induction N with
        | zero => rintro _ ⟨j, hj, _⟩; omega
        | succ N ih =>
          intro hN hx
          by_cases hp : ∃ j, j < N ∧ gt v j ≤ gt v i ∧ gt v i < gt v j + gt c.nums j ∧ gt c.uses j ≠ 0
          · obtain ⟨j, j1, j2, j3, j4, j5⟩ := ih (by omega) hp
            by_cases hq : (gt v N ≤ gt v i ∧ gt v i < gt v N + gt c.nums N ∧ gt c.uses N ≠ 0) ∧ gt v j < gt v N
            · refine ⟨N, by omega, hq.1.1, hq.1.2.1, hq.1.2.2, fun k hk a b d => ?_⟩
              by_cases e : k = N
              · subst e; exact Int.le_refl _
              · have := j5 k (by omega) a b d; have := hq.2; omega
            · refine ⟨j, j1, j2, j3, j4, fun k hk a b d => ?_⟩
              by_cases e : k = N
              · subst e
                rcases Int.lt_or_le (gt v j) (gt v k) with q | q
                · exact absurd ⟨⟨a, b, d⟩, q⟩ hq
                · exact q
              · exact j5 k (by omega) a b d
          · obtain ⟨j, hj, a, b, d⟩ := hx
            have e : j = N := by
              rcases Nat.lt_or_ge j N with q | q
              · exact absurd ⟨j, q, a, b, d⟩ hp
              · omega
            subst e
            refine ⟨j, by omega, a, b, d, fun k hk a' b' d' => ?_⟩
            by_cases e : k = j
            · subst e; exact Int.le_refl _
            · exact absurd ⟨k, by omega, a', b', d'⟩ hp
      obtain ⟨j, j1, j2, j3, j4, j5⟩ := key v.length (Nat.le_refl _) hex
      have h1 := h j j1 (by omega) j4
      refine Int.le_trans (sumN_le fun k hk => ?_) h1
      have hk3 := (k3 k (by omega)).2
      split
      · rename_i q
        by_cases hu : gt c.uses k = 0
        · split <;> omega
        · rw [if_pos ⟨j5 k hk q.1 q.2 hu, by omega⟩]
          exact Int.le_refl _
      · split
        · exact hk3
        · exact Int.le_refl _
    · have z : ∀ N, N ≤ v.length → useV c v (gt v i) N ≤ 0 := by
        intro N
        induction N with
        | zero => intro _; exact Int.le_refl _
        | succ N ih =>
          intro hN
          have := ih (by omega)
          simp only [useV, sumN] at this ⊢
          split
          · rename_i q
            by_cases hu : gt c.uses N = 0
            · omega
            · exact absurd ⟨N, by omega, q.1, q.2, hu⟩ hex
          · omega
      have := z v.length (Nat.le_refl _)
      have hlim : 0 ≤ c.limit := by
        -- what uses nothing needs no limit, but a limit is not below nought
        exact hc.l5 h5
      omega
  · intro h i hi hn _
    exact h i hi (by have := (k3 i (by omega)).1; omega)
end Go.Fn

