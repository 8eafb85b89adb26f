/- Puzzles: the first values that keep one. A text of the prover's own; it names no program. -/
import Derived.Test.YtadkomdooleipaaGreatDoorKAe
namespace Go.Fn
open Go Go.Tb Go.Ut
/-- the first one is ahead of the other, or the same -/
def lexle : List Int → List Int → Prop
  | [], [] => True
  | x :: a, y :: b => x < y ∨ (x = y ∧ lexle a b)
  | _, _ => False
theorem lexle_antisymm : ∀ {a b : List Int}, lexle a b → lexle b a → a = b
  | [], [], _, _ => rfl
  | [], _ :: _, h, _ => h.elim
  | _ :: _, [], h, _ => h.elim
  | x :: a, y :: b, h, k => by
    simp only [lexle] at h k
    rcases h with h | ⟨rfl, h⟩
    · rcases k with k | ⟨rfl, k⟩ <;> omega
    · rcases k with k | ⟨_, k⟩
      · omega
      · rw [lexle_antisymm h k]
/-- at the first place where they are not the same the first one is less -/
theorem lexle_at : ∀ {a b : List Int} {k : Nat}, a.length = b.length → k < a.length → (∀ j, j < k → gt a j = gt b j) → gt a k < gt b k → lexle a b
  | [], _, k, _, hk, _, _ => by simp at hk
  | x :: a, [], _, h, _, _, _ => by simp at h
  | x :: a, y :: b, 0, _, _, _, h => .inl h
  | x :: a, y :: b, k + 1, hl, hk, h1, h2 => .inr ⟨h1 0 (by omega), lexle_at (k := k) (by simpa using hl) (by simpa using hk) (fun j hj => h1 (j + 1) (by omega)) h2⟩
theorem lexle_refl : ∀ a : List Int, lexle a a
  | [] => trivial
  | x :: a => .inr ⟨rfl, lexle_refl a⟩
/-- values out of the lists that keep the puzzle -/
structure Sol (p : Puz) (L : Lf) (x : List Int) : Prop where
  len : x.length = L.length
  mem : ∀ i, i < L.length → gt x i ∈ gt L i
  con : ∀ c ∈ p.cons, keptP c (argsOf c x)
/-- the first of all, or none -/
def IsFirst (q : List Int → Prop) : Option (List Int) → Prop
  | some x => q x ∧ ∀ y, q y → lexle x y
  | none => ∀ y, ¬ q y
theorem first_eq {q : List Int → Prop} {a b : Option (List Int)} (ha : IsFirst q a) (hb : IsFirst q b) : a = b := by
  cases a with
  | none => cases b with
    | none => rfl
    | some y => exact absurd hb.1 (ha y)
  | some x => cases b with
    | none => exact absurd ha.1 (hb x)
    | some y => rw [lexle_antisymm (ha.2 y hb.1) (hb.2 x ha.1)]
theorem IsFirst.iff {q q' : List Int → Prop} {a : Option (List Int)} (h : IsFirst q a) (e : ∀ y, q y ↔ q' y) : IsFirst q' a := by
  cases a with
  | none => exact fun y hy => h y ((e y).2 hy)
  | some x => exact ⟨(e x).1 h.1, fun y hy => h.2 y ((e y).2 hy)⟩
theorem gt_args {c : Con} {x : List Int} {k : Nat} (hk : k < c.vars.length) : gt (argsOf c x) k = gt x (gt c.vars k).toNat := gt_map _ hk
theorem args_len (c : Con) (x : List Int) : (argsOf c x).length = c.vars.length := by simp [argsOf]
/-- lists of one value each -/
def ones (x : List Int) : Lf := x.map fun v => [v]
theorem gt_ones {x : List Int} {k : Nat} (hk : k < x.length) : gt (ones x) k = [gt x k] := gt_map _ hk
theorem sumN_take {f g : Nat → Int} {i n : Nat} (hi : i < n) (h : ∀ k, k < n → k ≠ i → f k = g k) (h0 : g i = 0) : sumN f n = f i + sumN g n := by
  have e : sumN f n = sumN (fun k => if k = i then f i else g k) n := sumN_eq fun k hk => by
    by_cases q : k = i
    · subst q; simp
    · simp [q, h k hk q]
  rw [e, sumN_one (f := fun k => if k = i then f i else g k) (g := g) (i := i) fun k hk => by simp [hk], if_pos hi]
  simp [h0]; omega
/-- values that keep a constraint may stand -/
theorem kept_may {n : Nat} {c : Con} (hc : ConOK n c) {x : List Int} (hx : x.length = n) (h : keptP c (argsOf c x)) : CnsC c (ones x) := by
  intro i hi v hv
  have hl : ∀ k, k < c.vars.length → lk c (ones x) k = [gt (argsOf c x) k] := fun k hk => by
    rw [gt_args hk]
    exact gt_ones (by rw [hx]; exact hc.at hk)
  have lo : ∀ k, k < c.vars.length → low (lk c (ones x) k) = gt (argsOf c x) k := fun k hk => by rw [hl k hk]; rfl
  have hg : ∀ k, k < c.vars.length → high (lk c (ones x) k) = gt (argsOf c x) k := fun k hk => by rw [hl k hk]; rfl
  rw [hl i hi] at hv
  have hv' : v = gt (argsOf c x) i := by simpa using hv
  subst hv'
  have al := args_len c x
  unfold May
  unfold keptP at h
  split
  · rename_i e; rw [if_pos e] at h
    refine ⟨fun j => gt (argsOf c x) j, fun j hj => ?_, fun j j' hj hj' e' => ?_⟩
    · unfold PartM
      rw [if_pos hj]
      split
      · rename_i q; subst q; simp
      · rw [hl j hj]; simp
    · have := List.pairwise_iff_getElem.1 h
      rcases Nat.lt_trichotomy j j' with q | q | q
      · have := this j j' (by omega) (by omega) q
        rw [gt_get (by omega), gt_get (by omega)] at this
        exact absurd e' this
      · exact q
      · have := this j' j (by omega) (by omega) q
        rw [gt_get (by omega), gt_get (by omega)] at this
        exact absurd e'.symm this
  rename_i e1; rw [if_neg e1] at h
  split
  · rename_i e; rw [if_pos e] at h
    rw [al] at h
    have a1 : lowS c (ones x) i c.vars.length = sumN (fun k => if k = i then 0 else gt c.nums k * gt (argsOf c x) k) c.vars.length := sumN_eq fun k hk => by rw [lo k hk, hg k hk]; simp
    have a2 : highS c (ones x) i c.vars.length = sumN (fun k => if k = i then 0 else gt c.nums k * gt (argsOf c x) k) c.vars.length := sumN_eq fun k hk => by rw [lo k hk, hg k hk]; simp
    have a3 := sumN_take (f := fun k => gt c.nums k * gt (argsOf c x) k) (g := fun k => if k = i then 0 else gt c.nums k * gt (argsOf c x) k) hi (fun k _ hk => by simp [hk]) (by simp)
    unfold dotN at h
    rw [a1, a2]
    omega
  rename_i e2; rw [if_neg e2] at h
  split
  · rename_i e; rw [if_pos e] at h
    refine ⟨_, h, rfl, fun k hk => ⟨by rw [hl k hk]; simp, fun t ht q => ?_⟩⟩
    rw [gt_args (by omega), gt_args hk, q]
  rename_i e3; rw [if_neg e3] at h
  split
  · rename_i e; rw [if_pos e] at h
    have l2 := hc.k4 e
    rw [al] at h
    obtain ⟨h1, h2, h3⟩ := h
    unfold PlcM
    split
    · rename_i q; subst q
      exact ⟨h1, h2, gt (argsOf c x) (2 + (gt (argsOf c x) 0).toNat), by rw [hl _ (by omega)]; simp, by rw [hl _ (by omega)]; simp [h3]⟩
    rename_i q
    split
    · rename_i q; subst q
      exact ⟨gt (argsOf c x) 0, by rw [hl _ (by omega)]; simp, h1, h2, by rw [hl _ (by omega)]; simp [h3]⟩
    rename_i q'
    intro h0
    rw [hl 0 (by omega)] at h0
    simp at h0
    rw [hl 1 (by omega)]
    rw [h0] at h3
    have : 2 + ((i : Int) - 2).toNat = i := by omega
    rw [this] at h3
    simp [h3]
  rename_i e4; rw [if_neg e4] at h
  have e5 : c.kind = 5 := by have := hc.kd; omega
  obtain ⟨k1, k2, k3⟩ := hc.k5 e5
  rw [shared_iff hc e5 al, al] at h
  by_cases z1 : gt c.nums i = 0
  · exact .inl z1
  by_cases z2 : gt c.uses i = 0
  · exact .inr (.inl z2)
  refine .inr (.inr fun m hm => ?_)
  have hmi : gt (argsOf c x) i ≤ m ∧ m < gt (argsOf c x) i + gt c.nums i := by
    have := (k3 i hi).1
    rcases hm with rfl | ⟨k, _, _, _, q1, q2⟩
    · exact ⟨Int.le_refl _, by omega⟩
    · exact ⟨by omega, by omega⟩
  -- the latest that runs at m
  have key : ∀ N, N ≤ c.vars.length → ∃ j, j < c.vars.length ∧ gt (argsOf c x) j ≤ m ∧ m < gt (argsOf c x) j + gt c.nums j ∧ gt (argsOf c x) i ≤ gt (argsOf c x) j ∧ ∀ k, k < N → gt (argsOf c x) k ≤ m → m < gt (argsOf c x) k + gt c.nums k → gt (argsOf c x) k ≤ gt (argsOf c x) j := by
    intro N
    induction N with
    | zero => exact fun _ => ⟨i, hi, hmi.1, hmi.2, Int.le_refl _, fun k hk => by omega⟩
    | succ N ih =>
      intro hN
      obtain ⟨j, j1, j2, j3, j4, j5⟩ := ih (by omega)
      by_cases hq : (gt (argsOf c x) N ≤ m ∧ m < gt (argsOf c x) N + gt c.nums N) ∧ gt (argsOf c x) j < gt (argsOf c x) N
      · refine ⟨N, by omega, hq.1.1, hq.1.2, by omega, fun k hk a b => ?_⟩
        by_cases e : k = N
        · subst e; exact Int.le_refl _
        · have := j5 k (by omega) a b; omega
      · refine ⟨j, j1, j2, j3, j4, fun k hk a b => ?_⟩
        by_cases e : k = N
        · subst e
          rcases Int.lt_or_le (gt (argsOf c x) j) (gt (argsOf c x) k) with q | q
          · exact absurd ⟨⟨a, b⟩, q⟩ hq
          · exact q
        · exact j5 k (by omega) a b
  obtain ⟨j, j1, j2, j3, j4, j5⟩ := key c.vars.length (Nat.le_refl _)
  have h1 := h j j1 (by omega)
  have h2 : sumN (fun k => if gt (argsOf c x) k ≤ m ∧ m < gt (argsOf c x) k + gt c.nums k then gt c.uses k else 0) c.vars.length ≤ useV c (argsOf c x) (gt (argsOf c x) j) c.vars.length := by
    refine sumN_le fun k hk => ?_
    have := (k3 k hk).2
    split
    · rename_i q
      rw [if_pos ⟨j5 k hk q.1 q.2, by omega⟩]; exact Int.le_refl _
    · split
      · exact this
      · exact Int.le_refl _
  have h3 := sumN_take (f := fun k => if gt (argsOf c x) k ≤ m ∧ m < gt (argsOf c x) k + gt c.nums k then gt c.uses k else 0) (g := fun k => if k ≠ i ∧ Runs c (ones x) m k then gt c.uses k else 0) hi (fun k hk hki => by
    have : Runs c (ones x) m k ↔ gt (argsOf c x) k ≤ m ∧ m < gt (argsOf c x) k + gt c.nums k := by unfold Runs; rw [lo k hk, hg k hk]
    simp [hki, this]) (by simp)
  simp only [hmi, and_self, if_true] at h3
  unfold useS
  omega
theorem sol_left {p : Puz} {L L' : Lf} {ok : Bool} (hp : ∀ c ∈ p.cons, ConOK L.length c) (hn : Nar p L L' ok) {x : List Int} (h : Sol p L x) : ok = true ∧ Sol p L' x := by
  have f1 : FLe (ones x) L := ⟨by simp [ones, h.len], fun k hk v hv => by
    rw [gt_ones (by rw [h.len]; exact hk)] at hv
    simp only [List.mem_cons, List.not_mem_nil, or_false] at hv
    subst hv; exact h.mem k hk⟩
  have f2 : NE (ones x) := fun k hk => by
    have hk' : k < x.length := by simpa [ones] using hk
    rw [gt_ones hk']; simp
  have f3 : AscL (ones x) := fun k hk => by
    have hk' : k < x.length := by simpa [ones] using hk
    rw [gt_ones hk']; simp
  have f := hn.fam _ f3 f2 f1 fun c hc => kept_may (hp c hc) h.len (h.con c hc)
  refine ⟨?_, ⟨by rw [h.len, hn.len], fun i hi => ?_, h.con⟩⟩
  · cases ok with
    | true => rfl
    | false => exact absurd (f2.up f) (hn.no rfl)
  · have hi' : i < x.length := by rw [h.len, ← hn.len]; exact hi
    exact f.mem i hi _ (by rw [gt_ones hi']; simp)
theorem sol_up {p : Puz} {L L' : Lf} (hl : FLe L' L) {x : List Int} (h : Sol p L' x) : Sol p L x := ⟨by rw [h.len, hl.len], fun i hi => hl.mem i hi _ (h.mem i (by rw [hl.len]; exact hi)), h.con⟩
end Go.Fn

