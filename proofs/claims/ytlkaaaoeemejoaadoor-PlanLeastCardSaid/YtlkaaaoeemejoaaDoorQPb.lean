/- The search for the first starts with the least span, in plain Lean: the program's and the document's find the same. A text of the prover's own; it names no program. -/
import Derived.Test.YtlkaaaoeemejoaaDoorQPa
namespace Go.Pn
open Go
/-! ### A search, place by place -/
def scan {α : Type} (f : Int → Option α) : Nat → Int → Option α
  | 0, _ => none
  | m + 1, a => match f a with
    | some r => some r
    | none => scan f m (a + 1)
structure Srch where
  lo : List Int → Int
  hi : List Int → Int
  ok : List Int → Bool
def dfs (S : Srch) : Nat → List Int → Option (List Int)
  | 0, y => some y
  | k + 1, y => scan (fun a => if S.ok (y ++ [a]) = true then dfs S k (y ++ [a]) else none) (S.hi y - S.lo y + 1).toNat (S.lo y)
def Feas (S : Srch) : List Int → List Int → Prop
  | _, [] => True
  | y, a :: t => S.lo y ≤ a ∧ a ≤ S.hi y ∧ S.ok (y ++ [a]) = true ∧ Feas S (y ++ [a]) t
def lexle : List Int → List Int → Prop
  | [], _ => True
  | _ :: _, [] => False
  | a :: t, b :: u => a < b ∨ (a = b ∧ lexle t u)
theorem lexle_antisymm : ∀ {t u : List Int}, t.length = u.length → lexle t u → lexle u t → t = u
  | [], [], _, _, _ => rfl
  | [], _ :: _, h, _, _ => by simp at h
  | _ :: _, [], h, _, _ => by simp at h
  | a :: t, b :: u, h, h1, h2 => by
    simp only [lexle] at h1 h2
    rcases h1 with h1 | ⟨rfl, h1⟩
    · rcases h2 with h2 | ⟨rfl, h2⟩ <;> omega
    · rcases h2 with h2 | ⟨_, h2⟩
      · omega
      · rw [lexle_antisymm (by simpa using h) h1 h2]
theorem scan_some {α : Type} {f : Int → Option α} : ∀ {m : Nat} {a : Int} {r : α}, scan f m a = some r → ∃ i : Nat, i < m ∧ f (a + i) = some r ∧ ∀ j : Nat, j < i → f (a + j) = none
  | m + 1, a, r, h => by
    simp only [scan] at h
    split at h
    · rename_i r' hr
      simp only [Option.some.injEq] at h
      subst h
      exact ⟨0, by omega, by simpa using hr, fun j hj => absurd hj (by omega)⟩
    · rename_i hn
      obtain ⟨i, h1, h2, h3⟩ := scan_some h
      refine ⟨i + 1, by omega, by rw [← h2]; congr 1; omega, fun j hj => ?_⟩
      cases j with
      | zero => simpa using hn
      | succ j => rw [← h3 j (by omega)]; congr 1; omega
theorem scan_none {α : Type} {f : Int → Option α} : ∀ {m : Nat} {a : Int}, scan f m a = none → ∀ i : Nat, i < m → f (a + i) = none
  | m + 1, a, h, i, hi => by
    simp only [scan] at h
    split at h
    · cases h
    · rename_i hn
      cases i with
      | zero => simpa using hn
      | succ i => rw [← scan_none h i (by omega)]; congr 1; omega

theorem dfs_spec (S : Srch) : ∀ (k : Nat) (y : List Int), (∀ z, dfs S k y = some z → ∃ t, z = y ++ t ∧ t.length = k ∧ Feas S y t ∧ ∀ t', t'.length = k → Feas S y t' → lexle t t') ∧ (dfs S k y = none → ∀ t', t'.length = k → ¬ Feas S y t')
  | 0, y => ⟨fun z h => by
      simp only [dfs, Option.some.injEq] at h
      exact ⟨[], by simp [h], rfl, by simp [Feas], fun _ _ _ => by simp [lexle]⟩, fun h => by simp [dfs] at h⟩
  | k + 1, y => by
    have step : ∀ b u, Feas S y (b :: u) → ∃ j : Nat, j < (S.hi y - S.lo y + 1).toNat ∧ b = S.lo y + j ∧ S.ok (y ++ [b]) = true ∧ Feas S (y ++ [b]) u := fun b u h => by
      simp only [Feas] at h
      exact ⟨(b - S.lo y).toNat, by omega, by omega, h.2.2.1, h.2.2.2⟩
    refine ⟨fun z h => ?_, fun h t' ht' hf => ?_⟩
    · obtain ⟨i, h1, h2, h3⟩ := scan_some h
      split at h2
      · rename_i hok
        obtain ⟨t, e1, e2, e3, e4⟩ := (dfs_spec S k (y ++ [S.lo y + i])).1 z h2
        refine ⟨(S.lo y + i) :: t, by rw [e1]; simp, by simp [e2], ?_, fun t' ht' hf => ?_⟩
        · simp only [Feas]; exact ⟨by omega, by omega, hok, e3⟩
        · match t', ht' with
          | b :: u, ht' =>
            obtain ⟨j, g1, rfl, g3, g4⟩ := step _ _ hf
            simp only [lexle]
            rcases Nat.lt_trichotomy i j with hij | rfl | hij
            · left; omega
            · right; exact ⟨rfl, e4 u (by simpa using ht') g4⟩
            · exfalso
              have := h3 j hij
              rw [if_pos g3] at this
              exact (dfs_spec S k _).2 this u (by simpa using ht') g4
      · cases h2
    · match t', ht' with
      | b :: u, ht' =>
        obtain ⟨j, g1, rfl, g3, g4⟩ := step _ _ hf
        have := scan_none h j g1
        rw [if_pos g3] at this
        exact (dfs_spec S k _).2 this u (by simpa using ht') g4

theorem dfs_eq {A B : Srch} {n : Nat} (h : ∀ t, t.length = n → (Feas A [] t ↔ Feas B [] t)) : dfs A n [] = dfs B n [] := by
  obtain ⟨a1, a2⟩ := dfs_spec A n []
  obtain ⟨b1, b2⟩ := dfs_spec B n []
  cases ha : dfs A n [] with
  | none => cases hb : dfs B n [] with
    | none => rfl
    | some z =>
      obtain ⟨t, -, e2, e3, -⟩ := b1 z hb
      exact absurd ((h t e2).2 e3) (a2 ha t e2)
  | some z => cases hb : dfs B n [] with
    | none =>
      obtain ⟨t, -, e2, e3, -⟩ := a1 z ha
      exact absurd ((h t e2).1 e3) (b2 hb t e2)
    | some z' =>
      obtain ⟨t, e1, e2, e3, e4⟩ := a1 z ha
      obtain ⟨t', f1, f2, f3, f4⟩ := b1 z' hb
      rw [e1, f1, lexle_antisymm (by omega) (e4 t' f2 ((h t' f2).2 f3)) (f4 t e2 ((h t e2).1 e3))]

theorem feas_iff (S : Srch) : ∀ (t y : List Int), Feas S y t ↔ ∀ i, i < t.length → S.lo (y ++ t.take i) ≤ ig t i ∧ ig t i ≤ S.hi (y ++ t.take i) ∧ S.ok (y ++ t.take (i + 1)) = true
  | [], y => by simp [Feas]
  | a :: t, y => by
    simp only [Feas, feas_iff S t (y ++ [a])]
    constructor
    · rintro ⟨h1, h2, h3, h4⟩ i hi
      cases i with
      | zero => simpa [ig] using ⟨h1, h2, h3⟩
      | succ i => simpa [ig] using h4 i (by simpa using hi)
    · intro h
      refine ⟨by simpa [ig] using (h 0 (by simp)).1, by simpa [ig] using (h 0 (by simp)).2.1, by simpa [ig] using (h 0 (by simp)).2.2, fun i hi => ?_⟩
      simpa [ig] using h (i + 1) (by simpa using hi)

/-! ### The two searches -/
def part (p : Plan) (m : Nat) : Plan := ⟨p.jobs.take m, p.caps⟩
def fromOf (p : Plan) (y : List Int) (l : List Int) (m : Int) : Int := l.foldl (fun m a => max m (ig y a.toNat + (jg p.jobs a.toNat).long)) m
def SP (p : Plan) (T : List Int) (span : Int) : Srch := ⟨fun y => fromOf p y (jg p.jobs y.length).after 0, fun y => span - ig T y.length, fun y => (spanR (part p y.length) y).2⟩
def SR (p : Plan) (span : Int) : Srch := ⟨fun _ => 0, fun y => span - (jg p.jobs y.length).long, fun y => (endsR (part p y.length) y).2⟩
structure Good (p : Plan) (span : Int) (z : List Int) : Prop where
  len : z.length = p.jobs.length
  step : ∀ i, i < p.jobs.length → stepB p z i = true
  fin : ∀ i, i < p.jobs.length → ig z i + (jg p.jobs i).long ≤ span

theorem jg_take {l : List Job} {m i : Nat} (h : i < m) : jg (l.take m) i = jg l i := by
  simp only [jg, List.getD_eq_getElem?_getD, List.getElem?_take_of_lt h]
theorem ig_take {l : List Int} {m i : Nat} (h : i < m) : ig (l.take m) i = ig l i := by
  simp only [ig, List.getD_eq_getElem?_getD, List.getElem?_take_of_lt h]
theorem useAt_part {c : Nat} {t : Int} : ∀ {js : List Job} {ss : List Int} {m : Nat}, ss.length ≤ m → useAt c t (js.take m) ss = useAt c t js ss
  | [], ss, m, h => by simp [useAt]
  | j :: js, [], m, h => by cases m <;> simp [useAt]
  | j :: js, s :: ss, 0, h => by simp at h
  | j :: js, s :: ss, m + 1, h => by
    simp only [List.take_succ_cons, useAt, useAt_part (js := js) (ss := ss) (m := m) (by simpa using h)]
theorem fitsB_part {p : Plan} {ss : List Int} {m : Nat} (h : ss.length ≤ m) (t : Int) : fitsB (part p m) ss t = fitsB p ss t := by
  rw [Bool.eq_iff_iff, fitsB_iff, fitsB_iff]
  simp only [part, useAt_part h]
theorem ok_part {p : Plan} (h : OK p) (m : Nat) : OK (part p m) := by
  have hm : (p.jobs.take m).length ≤ p.jobs.length := by simp; omega
  have hlt : ∀ i, i < (p.jobs.take m).length → i < p.jobs.length ∧ i < m := fun i hi => by simp at hi; omega
  refine ⟨Nat.le_trans hm h.nj, h.nc, h.cap, fun i hi => ?_, fun i hi => ?_, fun i c hi hc => ?_, fun i a hi ha => ?_, ?_⟩
  · obtain ⟨h1, h2⟩ := hlt i hi; simp only [part, jg_take h2]; exact h.long i h1
  · obtain ⟨h1, h2⟩ := hlt i hi; simp only [part, jg_take h2]; exact h.usl i h1
  · obtain ⟨h1, h2⟩ := hlt i hi; simp only [part, jg_take h2]; exact h.use i c h1 hc
  · obtain ⟨h1, h2⟩ := hlt i hi; simp only [part, jg_take h2] at ha; exact h.aft i a h1 ha
  · have key : ∀ (js : List Job) (m : Nat), (∀ i, i < js.length → 0 ≤ (jg js i).long) → ((js.take m).map (·.long)).sum ≤ (js.map (·.long)).sum ∧ 0 ≤ (js.map (·.long)).sum := by
      intro js
      induction js with
      | nil => intro m _; simp
      | cons j js ih =>
        intro m hh
        have h0 := hh 0 (by simp)
        simp only [jg, List.getD_cons_zero] at h0
        obtain ⟨g1, g2⟩ := ih (m - 1) (fun i hi => by simpa [jg] using hh (i + 1) (by simpa using hi))
        cases m with
        | zero => simp; omega
        | succ m => simp at g1 ⊢; omega
    have := key p.jobs m (fun i hi => (h.long i hi).1)
    have := h.all
    simp only [part]
    omega
theorem stepB_part {p : Plan} (h : OK p) {z : List Int} {m k : Nat} (hk : k < m) (hm : m ≤ p.jobs.length) : stepB (part p m) (z.take m) k = stepB p z k := by
  have hj : jg (part p m).jobs k = jg p.jobs k := jg_take hk
  have ht : (z.take m).take (k + 1) = z.take (k + 1) := by rw [List.take_take]; congr 1; omega
  have hl : (z.take (k + 1)).length ≤ m := by simp; omega
  unfold stepB
  rw [hj, ht, ig_take hk]
  congr 1
  · congr 1
    · congr 1
      unfold okAft
      rw [Bool.eq_iff_iff]
      simp only [List.all_eq_true, decide_eq_true_eq]
      have : ∀ a ∈ (jg p.jobs k).after, ig (z.take m) a.toNat = ig z a.toNat ∧ jg (part p m).jobs a.toNat = jg p.jobs a.toNat := fun a ha => by
        have := h.aft k a (by omega) ha
        exact ⟨ig_take (by omega), jg_take (by omega)⟩
      exact ⟨fun hh a ha => by obtain ⟨e1, e2⟩ := this a ha; rw [← e1, ← e2]; exact hh a ha, fun hh a ha => by obtain ⟨e1, e2⟩ := this a ha; rw [e1, e2]; exact hh a ha⟩
    · exact fitsB_part hl _
  · rw [Bool.eq_iff_iff]
    simp only [List.all_eq_true, List.mem_range]
    have : ∀ q, q < k → okMid (part p m) (z.take m) k q = okMid p z k q := fun q hq => by
      unfold okMid
      rw [hj, ht, ig_take hk, ig_take (show q < m by omega), fitsB_part hl]
    exact ⟨fun hh q hq => by rw [← this q hq]; exact hh q hq, fun hh q hq => by rw [this q hq]; exact hh q hq⟩

theorem spanR_snd {p : Plan} {z : List Int} : (spanR p z).2 = true ↔ ∀ i, i < p.jobs.length → stepB p z i = true := by
  unfold spanR
  split
  · rename_i h; simpa using h
  · rename_i h; simpa using h
theorem ok_pre {p : Plan} (h : OK p) {z : List Int} {m : Nat} (hz : z.length = p.jobs.length) (hm : m ≤ p.jobs.length) : (spanR (part p (z.take m).length) (z.take m)).2 = true ↔ ∀ k, k < m → stepB p z k = true := by
  have hl : (z.take m).length = m := by simp; omega
  rw [hl, spanR_snd]
  simp only [part, List.length_take, Nat.min_eq_left hm]
  exact ⟨fun hh k hk => by rw [← stepB_part h hk hm]; exact hh k hk, fun hh k hk => by
    have := stepB_part h (z := z) hk hm
    unfold part at this
    rw [this]; exact hh k hk⟩
theorem ok_pre' {p : Plan} (h : OK p) {z : List Int} {m : Nat} (hz : z.length = p.jobs.length) (hm : m ≤ p.jobs.length) : (endsR (part p (z.take m).length) (z.take m)).2 = true ↔ ∀ k, k < m → stepB p z k = true := by
  rw [← ok_pre h hz hm]
  rw [span_eq (ok_part h _)]
  simp only [part, List.length_take]; omega

theorem feasR {p : Plan} (h : OK p) {span : Int} {z : List Int} (hz : z.length = p.jobs.length) : Feas (SR p span) [] z ↔ Good p span z := by
  rw [feas_iff]
  simp only [SR, List.nil_append]
  constructor
  · intro hh
    refine ⟨hz, fun i hi => ?_, fun i hi => ?_⟩
    · exact (ok_pre' h hz (by omega)).1 (hh i (by omega)).2.2 i (by omega)
    · have := (hh i (by omega)).2.1
      simp only [List.length_take] at this
      rw [show min i z.length = i by omega] at this
      omega
  · intro hg i hi
    have h0 : 0 ≤ ig z i := by
      have := hg.step i (by omega)
      simp only [stepB, okStart, Bool.and_eq_true, decide_eq_true_eq] at this
      exact this.1.1.1.1
    refine ⟨h0, ?_, (ok_pre' h hz (by omega)).2 fun k hk => hg.step k (by omega)⟩
    have := hg.fin i (by omega)
    simp only [List.length_take]
    rw [show min i z.length = i by omega]
    omega
/-- what the program's tails have to be -/
structure TailOK (p : Plan) (T : List Int) : Prop where
  ge : ∀ i, i < p.jobs.length → (jg p.jobs i).long ≤ ig T i
  le : ∀ span z, Good p span z → ∀ i, i < p.jobs.length → ig z i + ig T i ≤ span
theorem fromOf_le {p : Plan} {y : List Int} : ∀ {l : List Int} {m v : Int}, fromOf p y l m ≤ v ↔ m ≤ v ∧ ∀ a ∈ l, ig y a.toNat + (jg p.jobs a.toNat).long ≤ v
  | [], m, v => by simp [fromOf]
  | a :: l, m, v => by
    have := fromOf_le (p := p) (y := y) (l := l) (m := max m (ig y a.toNat + (jg p.jobs a.toNat).long)) (v := v)
    unfold fromOf at this ⊢
    rw [List.foldl_cons, this]
    constructor
    · rintro ⟨h1, h2⟩
      refine ⟨by omega, fun b hb => ?_⟩
      rcases List.mem_cons.1 hb with rfl | hb
      · omega
      · exact h2 b hb
    · rintro ⟨h1, h2⟩
      have := h2 a (by simp)
      exact ⟨by omega, fun b hb => h2 b (by simp [hb])⟩
theorem feasP {p : Plan} (h : OK p) {T : List Int} (hT : TailOK p T) {span : Int} {z : List Int} (hz : z.length = p.jobs.length) : Feas (SP p T span) [] z ↔ Good p span z := by
  rw [feas_iff]
  simp only [SP, List.nil_append]
  have hl : ∀ i, i < z.length → (z.take i).length = i := fun i hi => by simp; omega
  constructor
  · intro hh
    refine ⟨hz, fun i hi => ?_, fun i hi => ?_⟩
    · exact (ok_pre h hz (by omega)).1 (hh i (by omega)).2.2 i (by omega)
    · have := (hh i (by omega)).2.1
      rw [hl i (by omega)] at this
      have := hT.ge i hi
      omega
  · intro hg i hi
    refine ⟨?_, ?_, (ok_pre h hz (by omega)).2 fun k hk => hg.step k (by omega)⟩
    · rw [fromOf_le, hl i hi]
      have := hg.step i (by omega)
      simp only [stepB, okStart, okAft, Bool.and_eq_true, decide_eq_true_eq, List.all_eq_true] at this
      refine ⟨this.1.1.1.1, fun a ha => ?_⟩
      have h2 := h.aft i a (by omega) ha
      rw [ig_take (by omega)]
      exact this.1.1.2 a ha
    · rw [hl i hi]
      have := hT.le span z hg i (by omega)
      omega
theorem dfs_both {p : Plan} (h : OK p) {T : List Int} (hT : TailOK p T) (span : Int) : dfs (SP p T span) p.jobs.length [] = dfs (SR p span) p.jobs.length [] :=
  dfs_eq fun t ht => (feasP h hT ht).trans (feasR h ht).symm

/-! ### How long what waits takes -/
def tailIn (v : Int) : List Int → List Int → List Int
  | [], tl => tl
  | a :: r, tl => tailIn v r (tl.set a.toNat (max (ig tl a.toNat) v))
def tailStep (p : Plan) (i : Nat) (s : List Int × Int) : List Int × Int :=
  (tailIn (ig s.1 i + (jg p.jobs i).long) (jg p.jobs i).after (s.1.set i (ig s.1 i + (jg p.jobs i).long)), max s.2 (ig s.1 i + (jg p.jobs i).long))
def tailsFrom (p : Plan) : Nat → List Int × Int → List Int × Int
  | 0, s => s
  | i + 1, s => tailsFrom p i (tailStep p i s)
def tailsOf (p : Plan) : List Int × Int := tailsFrom p p.jobs.length (List.replicate p.jobs.length 0, 0)

theorem ig_set {l : List Int} {i j : Nat} {v : Int} (h : i < l.length) : ig (l.set i v) j = if j = i then v else ig l j := by
  simp only [ig, List.getD_eq_getElem?_getD, List.getElem?_set]
  by_cases e : i = j
  · subst e; simp [h]
  · simp [e, Ne.symm e]
theorem tailIn_spec {v : Int} : ∀ {l tl : List Int}, (∀ a ∈ l, a.toNat < tl.length) → (tailIn v l tl).length = tl.length ∧ ∀ k, ig tl k ≤ ig (tailIn v l tl) k ∧ (ig (tailIn v l tl) k = ig tl k ∨ (ig (tailIn v l tl) k = v ∧ ∃ a ∈ l, a.toNat = k))
  | [], tl, _ => ⟨rfl, fun k => ⟨Int.le_refl _, .inl rfl⟩⟩
  | a :: l, tl, h => by
    have ha := h a (by simp)
    obtain ⟨h1, h2⟩ := tailIn_spec (v := v) (l := l) (tl := tl.set a.toNat (max (ig tl a.toNat) v)) (fun b hb => by simpa using h b (by simp [hb]))
    refine ⟨by simpa [tailIn] using h1, fun k => ?_⟩
    obtain ⟨g1, g2⟩ := h2 k
    simp only [tailIn]
    rw [ig_set ha] at g1 g2
    by_cases e : k = a.toNat
    · subst e
      simp only [if_true] at g1 g2
      refine ⟨by omega, ?_⟩
      rcases g2 with g2 | ⟨g2, b, hb, hb'⟩
      · by_cases hm : ig tl a.toNat ≤ v
        · right; exact ⟨by rw [g2]; omega, a, by simp, rfl⟩
        · left; rw [g2]; omega
      · right; exact ⟨g2, a, by simp, rfl⟩
    · rw [if_neg e] at g1 g2
      refine ⟨g1, ?_⟩
      rcases g2 with g2 | ⟨g2, b, hb, hb'⟩
      · exact .inl g2
      · exact .inr ⟨g2, b, by simp [hb], hb'⟩

/-- what is kept while tails are told, from the last job down to job i -/
structure TI' (p : Plan) (i : Nat) (s : List Int × Int) : Prop where
  len : s.1.length = p.jobs.length
  pos : ∀ k, 0 ≤ ig s.1 k
  ge : ∀ k, i ≤ k → k < p.jobs.length → (jg p.jobs k).long ≤ ig s.1 k
  hi : ∀ span z, Good p span z → ∀ k, k < p.jobs.length → ig z k + ig s.1 k + (if k < i then (jg p.jobs k).long else 0) ≤ span
  ls : ∀ span z, Good p span z → 0 ≤ span → s.2 ≤ span
  l0 : 0 ≤ s.2
theorem tailStep_ok {p : Plan} (h : OK p) {i : Nat} (hi : i < p.jobs.length) {s : List Int × Int} (hs : TI' p (i + 1) s) : TI' p i (tailStep p i s) := by
  have hlong := (h.long i hi).1
  have hp := hs.pos i
  have hlen := hs.len
  have haft : ∀ a ∈ (jg p.jobs i).after, a.toNat < (s.1.set i (ig s.1 i + (jg p.jobs i).long)).length := fun a ha => by
    have := h.aft i a hi ha
    simp; omega
  obtain ⟨h1, h2⟩ := tailIn_spec (v := ig s.1 i + (jg p.jobs i).long) haft
  have hv : ∀ span z, Good p span z → ig z i + (ig s.1 i + (jg p.jobs i).long) ≤ span := fun span z hg => by
    have := hs.hi span z hg i hi
    rw [if_pos (by omega)] at this
    omega
  have hset : ∀ k, ig (s.1.set i (ig s.1 i + (jg p.jobs i).long)) k = if k = i then ig s.1 i + (jg p.jobs i).long else ig s.1 k := fun k => ig_set (by omega)
  refine ⟨by simp only [tailStep, h1]; simpa using hlen, fun k => ?_, fun k hk hk' => ?_, fun span z hg k hk => ?_, fun span z hg h0 => ?_, ?_⟩
  · have h3 := (h2 k).1
    rw [hset] at h3
    simp only [tailStep]
    have := hs.pos k
    split at h3 <;> omega
  · have := (h2 k).1
    rw [hset] at this
    simp only [tailStep]
    by_cases e : k = i
    · subst e; rw [if_pos rfl] at this; omega
    · rw [if_neg e] at this
      have := hs.ge k (by omega) hk'
      omega
  · simp only [tailStep]
    rcases (h2 k).2 with e | ⟨e, a, ha, rfl⟩
    · rw [e, hset]
      by_cases e' : k = i
      · subst e'
        have := hv span z hg
        rw [if_pos rfl, if_neg (by omega)]; omega
      · rw [if_neg e']
        have := hs.hi span z hg k hk
        split at this <;> split <;> omega
    · have ha' := h.aft i a hi ha
      rw [e, if_pos (by omega)]
      have := hg.step i hi
      simp only [stepB, okAft, Bool.and_eq_true, decide_eq_true_eq, List.all_eq_true] at this
      have := this.1.1.2 a ha
      have := hv span z hg
      omega
  · simp only [tailStep]
    have := hv span z hg
    have h3 := hg.step i hi
    simp only [stepB, okStart, Bool.and_eq_true, decide_eq_true_eq] at h3
    have := hs.ls span z hg h0
    omega
  · simp only [tailStep]
    have := hs.l0
    omega
theorem tailsFrom_ok {p : Plan} (h : OK p) : ∀ {i : Nat} {s : List Int × Int}, i ≤ p.jobs.length → TI' p i s → TI' p 0 (tailsFrom p i s)
  | 0, s, _, hs => hs
  | i + 1, s, hi, hs => tailsFrom_ok (i := i) (s := tailStep p i s) h (by omega) (tailStep_ok h (by omega) hs)
theorem tails_start {p : Plan} : TI' p p.jobs.length (List.replicate p.jobs.length 0, 0) := by
  have hz : ∀ k, ig (List.replicate p.jobs.length (0 : Int)) k = 0 := fun k => by
    simp only [ig, List.getD_eq_getElem?_getD, List.getElem?_replicate]; split <;> rfl
  refine ⟨by simp, fun k => by rw [hz]; omega, fun k h1 h2 => by omega, fun span z hg k hk => ?_, fun _ _ _ h => h, Int.le_refl _⟩
  simp only [hz, if_pos hk]
  have := hg.fin k hk
  omega
theorem tails_ok {p : Plan} (h : OK p) : TI' p 0 (tailsOf p) := tailsFrom_ok h (Nat.le_refl _) tails_start
theorem tailOK {p : Plan} (h : OK p) : TailOK p (tailsOf p).1 :=
  ⟨fun i hi => (tails_ok h).ge i (by omega) hi, fun span z hg i hi => by have := (tails_ok h).hi span z hg i hi; simpa using this⟩

/-! ### The work of a kind -/
def workOf (c : Nat) : List Job → Int
  | [] => 0
  | j :: js => j.long * ig j.uses c + workOf c js
def capGo (p : Plan) : Nat → List Int → Int → Int
  | _, [], l => l
  | c, m :: ms, l => capGo p (c + 1) ms (if 0 < m then max l ((workOf c p.jobs + m - 1).tdiv m) else l)
def leastOf (p : Plan) : Int := capGo p 0 p.caps (tailsOf p).2
def sumT (f : Nat → Int) : Nat → Int
  | 0 => 0
  | m + 1 => sumT f m + f m
theorem sumT_add (f g : Nat → Int) : ∀ m, sumT (fun t => f t + g t) m = sumT f m + sumT g m
  | 0 => rfl
  | m + 1 => by simp only [sumT, sumT_add f g m]; omega
theorem sumT_zero : ∀ m, sumT (fun _ => 0) m = 0
  | 0 => rfl
  | m + 1 => by simp only [sumT, sumT_zero m]; omega
theorem sumT_le {f : Nat → Int} {B : Int} : ∀ {m : Nat}, (∀ t, t < m → f t ≤ B) → sumT f m ≤ m * B
  | 0, _ => by simp [sumT]
  | m + 1, h => by
    have h1 := sumT_le (m := m) fun t ht => h t (by omega)
    have h2 := h m (by omega)
    have e : ((m + 1 : Nat) : Int) * B = m * B + B := by rw [Int.natCast_add, Int.add_mul]; simp
    simp only [sumT]
    omega
theorem ind_sum {s l u : Int} (h0 : 0 ≤ s) (hl : 0 ≤ l) : ∀ m : Nat, sumT (fun t => if s ≤ (t : Int) ∧ (t : Int) < s + l then u else 0) m = (if (m : Int) ≤ s then 0 else if (m : Int) ≤ s + l then m - s else l) * u
  | 0 => by
    have e : ((0 : Nat) : Int) ≤ s := by omega
    rw [if_pos e]
    simp [sumT]
  | m + 1 => by
    have ih := ind_sum (u := u) h0 hl m
    simp only [sumT, ih]
    by_cases a : (m : Int) < s
    · have e1 : ¬ (s ≤ (m : Int) ∧ (m : Int) < s + l) := by omega
      have e2 : (m : Int) ≤ s := by omega
      have e3 : ((m + 1 : Nat) : Int) ≤ s := by omega
      rw [if_neg e1, if_pos e2, if_pos e3]; simp
    · by_cases b : (m : Int) < s + l
      · have e1 : s ≤ (m : Int) ∧ (m : Int) < s + l := by omega
        have e3 : ¬ ((m + 1 : Nat) : Int) ≤ s := by omega
        have e4 : ((m + 1 : Nat) : Int) ≤ s + l := by omega
        rw [if_pos e1, if_neg e3, if_pos e4]
        have e : (((m + 1 : Nat) : Int) - s) * u = (m - s) * u + u := by
          rw [show (((m + 1 : Nat) : Int) - s) = (m - s) + 1 by omega, Int.add_mul]; simp
        rw [e]
        by_cases c : (m : Int) ≤ s
        · rw [if_pos c, show (m : Int) - s = 0 by omega]
        · have d : (m : Int) ≤ s + l := by omega
          rw [if_neg c, if_pos d]
      · have e1 : ¬ (s ≤ (m : Int) ∧ (m : Int) < s + l) := by omega
        have e3 : ¬ ((m + 1 : Nat) : Int) ≤ s := by omega
        have e4 : ¬ ((m + 1 : Nat) : Int) ≤ s + l := by omega
        rw [if_neg e1, if_neg e3, if_neg e4]
        by_cases e : (m : Int) ≤ s
        · have : l = 0 := by omega
          rw [if_pos e, this]; simp
        · rw [if_neg e]
          by_cases g : (m : Int) ≤ s + l
          · rw [if_pos g, show (m : Int) - s = l by omega]; simp
          · rw [if_neg g]; simp
theorem work_sum {c m : Nat} : ∀ {js : List Job} {ss : List Int}, js.length = ss.length → (∀ i, i < js.length → 0 ≤ (jg js i).long ∧ 0 ≤ ig ss i ∧ ig ss i + (jg js i).long ≤ m) → sumT (fun t => useAt c t js ss) m = workOf c js
  | [], [], _, _ => by simp [useAt, workOf, sumT_zero]
  | [], _ :: _, h, _ => by simp at h
  | _ :: _, [], h, _ => by simp at h
  | j :: js, s :: ss, h, hh => by
    have ih := work_sum (c := c) (m := m) (js := js) (ss := ss) (by simpa using h) (fun i hi => by simpa [jg, ig] using hh (i + 1) (by simpa using hi))
    obtain ⟨h1, h2, h3⟩ := hh 0 (by simp)
    simp only [jg, ig, List.getD_cons_zero] at h1 h2 h3
    have e := sumT_add (fun t => if s ≤ (t : Int) ∧ (t : Int) < s + j.long then ig j.uses c else 0) (fun t => useAt c t js ss) m
    simp only [useAt]
    rw [e, ih, ind_sum h2 h1, workOf]
    by_cases a : (m : Int) ≤ s
    · have : j.long = 0 := by omega
      rw [if_pos a, this]
    · rw [if_neg a]
      by_cases b : (m : Int) ≤ s + j.long
      · rw [if_pos b, show (m : Int) - s = j.long by omega]
      · rw [if_neg b]
theorem useAt_le {c : Nat} {t t' : Int} : ∀ {js : List Job} {ss : List Int}, (∀ k, k < js.length → k < ss.length → 0 ≤ ig (jg js k).uses c ∧ ((ig ss k ≤ t ∧ t < ig ss k + (jg js k).long) → (ig ss k ≤ t' ∧ t' < ig ss k + (jg js k).long))) → useAt c t js ss ≤ useAt c t' js ss
  | [], ss, _ => by simp [useAt]
  | j :: js, [], _ => by simp [useAt]
  | j :: js, s :: ss, h => by
    have ih := useAt_le (c := c) (t := t) (t' := t') (js := js) (ss := ss) (fun k h1 h2 => by simpa [jg, ig] using h (k + 1) (by simpa using h1) (by simpa using h2))
    obtain ⟨h1, h2⟩ := h 0 (by simp) (by simp)
    simp only [jg, ig, List.getD_cons_zero] at h1 h2
    simp only [useAt]
    by_cases a : s ≤ t ∧ t < s + j.long
    · rw [if_pos a, if_pos (h2 a)]; omega
    · rw [if_neg a]; simp only [ig]; split <;> omega
theorem useAt_none {c : Nat} {t : Int} : ∀ {js : List Job} {ss : List Int}, (∀ k, k < js.length → k < ss.length → ¬ (ig ss k ≤ t ∧ t < ig ss k + (jg js k).long)) → useAt c t js ss = 0
  | [], ss, _ => by simp [useAt]
  | j :: js, [], _ => by simp [useAt]
  | j :: js, s :: ss, h => by
    have ih := useAt_none (c := c) (t := t) (js := js) (ss := ss) (fun k h1 h2 => by simpa [jg, ig] using h (k + 1) (by simpa using h1) (by simpa using h2))
    have h1 := h 0 (by simp) (by simp)
    simp only [jg, ig, List.getD_cons_zero] at h1
    simp only [useAt, ih, if_neg h1]; omega

theorem good_at {p : Plan} (h : OK p) {span : Int} {z : List Int} (hg : Good p span z) {i c : Nat} (hi : i < p.jobs.length) (hc : c < p.caps.length) : useAt c (ig z i) p.jobs z ≤ ig p.caps c := by
  have e := span_eq h hg.len
  have h1 := spanR_snd.2 hg.step
  rw [e] at h1
  unfold endsR at h1
  split at h1
  · rename_i hh
    have := List.all_eq_true.1 hh.2 i (List.mem_range.2 (by rw [hg.len]; exact hi))
    simp only [endB, Bool.and_eq_true, fitsB_iff] at this
    exact this.2 c hc
  · cases h1
theorem good_pos {p : Plan} {span : Int} {z : List Int} (hg : Good p span z) {i : Nat} (hi : i < p.jobs.length) : 0 ≤ ig z i := by
  have := hg.step i hi
  simp only [stepB, okStart, Bool.and_eq_true, decide_eq_true_eq] at this
  exact this.1.1.1.1
theorem use_any {p : Plan} (h : OK p) {span : Int} {z : List Int} (hg : Good p span z) {c : Nat} (hc : c < p.caps.length) : ∀ t : Nat, useAt c t p.jobs z ≤ ig p.caps c := by
  intro t
  have hl := hg.len
  by_cases hm : ∃ m, m < p.jobs.length ∧ ig z m = t
  · obtain ⟨m, hm, e⟩ := hm
    rw [← e]; exact good_at h hg hm hc
  · have hne : ∀ k, k < p.jobs.length → ig z k ≠ t := fun k hk e => hm ⟨k, hk, e⟩
    cases t with
    | zero =>
      have hp : ∀ k, k < p.jobs.length → 0 ≤ ig z k := fun k hk => good_pos hg hk
      rw [useAt_none (fun k h1 h2 hr => by have := hne k h1; have := hp k h1; omega)]
      exact (h.cap c hc).1
    | succ t =>
      refine Int.le_trans (useAt_le (t' := (t : Int)) fun k h1 h2 => ⟨(h.use k c h1 hc).1, fun hr => ?_⟩) (use_any h hg hc t)
      have := hne k h1
      omega
theorem cap_le {p : Plan} (h : OK p) {span : Int} {z : List Int} (hg : Good p span z) (h0 : 0 ≤ span) : ∀ {ms : List Int} {c : Nat} {l : Int}, p.caps.drop c = ms → l ≤ span → capGo p c ms l ≤ span
  | [], c, l, _, hl => hl
  | m :: ms, c, l, hd, hl => by
    have hc : c < p.caps.length := by
      rcases Nat.lt_or_ge c p.caps.length with h' | h'
      · exact h'
      · rw [List.drop_eq_nil_of_le h'] at hd; cases hd
    rw [ig_drop hc] at hd
    simp only [List.cons.injEq] at hd
    obtain ⟨rfl, hd⟩ := hd
    simp only [capGo]
    refine cap_le h hg h0 hd ?_
    split
    · rename_i hpos
      have hw := work_sum (c := c) (m := span.toNat) (js := p.jobs) (ss := z) hg.len.symm (fun i hi => ⟨(h.long i hi).1, good_pos hg hi, by have := hg.fin i hi; omega⟩)
      have hb := sumT_le (m := span.toNat) (f := fun t => useAt c t p.jobs z) fun t _ => use_any h hg hc t
      rw [hw, Int.toNat_of_nonneg h0] at hb
      have hw0 : 0 ≤ workOf c p.jobs := by
        have : ∀ (js : List Job), (∀ i, i < js.length → 0 ≤ (jg js i).long ∧ 0 ≤ ig (jg js i).uses c) → 0 ≤ workOf c js := by
          intro js
          induction js with
          | nil => intro _; simp [workOf]
          | cons j js ih =>
            intro hh
            have h1 := ih (fun i hi => by simpa [jg] using hh (i + 1) (by simpa using hi))
            obtain ⟨h2, h3⟩ := hh 0 (by simp)
            simp only [jg, List.getD_cons_zero] at h2 h3
            have := Int.mul_nonneg h2 h3
            simp only [workOf]; omega
        exact this _ fun i hi => ⟨(h.long i hi).1, (h.use i c hi hc).1⟩
      rw [Int.tdiv_eq_ediv_of_nonneg (by omega)]
      have : (workOf c p.jobs + ig p.caps c - 1) / ig p.caps c < span + 1 := by
        refine Int.ediv_lt_of_lt_mul hpos ?_
        rw [Int.add_mul]; omega
      omega
    · exact hl
theorem least_le {p : Plan} (h : OK p) {span : Int} {z : List Int} (hg : Good p span z) (h0 : 0 ≤ span) : leastOf p ≤ span :=
  cap_le h hg h0 rfl ((tails_ok h).ls span z hg h0)
theorem capGo_ge {p : Plan} : ∀ {ms : List Int} {c : Nat} {l : Int}, l ≤ capGo p c ms l
  | [], c, l => Int.le_refl _
  | m :: ms, c, l => by
    simp only [capGo]
    refine Int.le_trans ?_ capGo_ge
    split <;> omega
theorem least_pos {p : Plan} (h : OK p) : 0 ≤ leastOf p := Int.le_trans (tails_ok h).l0 capGo_ge

/-! ### There is one -/
def serial : Int → List Job → List Int
  | _, [] => []
  | o, j :: js => o :: serial (o + j.long) js
theorem serial_len : ∀ {js : List Job} {o : Int}, (serial o js).length = js.length
  | [], _ => rfl
  | j :: js, o => by simp [serial, serial_len]
theorem serial_ge : ∀ {js : List Job} {o : Int}, (∀ i, i < js.length → 0 ≤ (jg js i).long) → ∀ i, i < js.length → o ≤ ig (serial o js) i ∧ ig (serial o js) i + (jg js i).long ≤ o + (js.map (·.long)).sum
  | [], _, _, i, hi => absurd hi (by simp)
  | j :: js, o, h, 0, _ => by
    have h0 := h 0 (by simp)
    have hs : ∀ (l : List Job), (∀ i, i < l.length → 0 ≤ (jg l i).long) → 0 ≤ (l.map (·.long)).sum := by
      intro l
      induction l with
      | nil => intro _; simp
      | cons x l ih =>
        intro hh
        have h1 := ih (fun i hi => by simpa [jg] using hh (i + 1) (by simpa using hi))
        have h2 := hh 0 (by simp)
        simp [jg] at h2 ⊢; omega
    have := hs js (fun i hi => by simpa [jg] using h (i + 1) (by simpa using hi))
    simp [jg, ig, serial] at h0 ⊢; omega
  | j :: js, o, h, i + 1, hi => by
    have h0 := h 0 (by simp)
    have := serial_ge (js := js) (o := o + j.long) (fun i hi => by simpa [jg] using h (i + 1) (by simpa using hi)) i (by simpa using hi)
    simp [jg, ig, serial] at h0 this ⊢
    omega
theorem serial_aft : ∀ {js : List Job} {o : Int}, (∀ i, i < js.length → 0 ≤ (jg js i).long) → ∀ a i, a < i → i < js.length → ig (serial o js) a + (jg js a).long ≤ ig (serial o js) i
  | [], _, _, a, i, _, hi => absurd hi (by simp)
  | j :: js, o, h, 0, i + 1, _, hi => by
    have := (serial_ge (js := js) (o := o + j.long) (fun i hi => by simpa [jg] using h (i + 1) (by simpa using hi)) i (by simpa using hi)).1
    simp [jg, ig, serial] at this ⊢
    omega
  | j :: js, o, h, a + 1, i + 1, ha, hi => by
    have := serial_aft (js := js) (o := o + j.long) (fun i hi => by simpa [jg] using h (i + 1) (by simpa using hi)) a i (by omega) (by simpa using hi)
    simpa [jg, ig, serial] using this
theorem serial_use {c : Nat} {B t : Int} (hB : 0 ≤ B) : ∀ {js : List Job} {o : Int} {m : Nat}, (∀ i, i < js.length → 0 ≤ (jg js i).long ∧ 0 ≤ ig (jg js i).uses c ∧ ig (jg js i).uses c ≤ B) → useAt c t js ((serial o js).take m) ≤ B ∧ (t < o → useAt c t js ((serial o js).take m) = 0)
  | [], o, m, _ => by simp [useAt, hB]
  | j :: js, o, 0, _ => by simp [useAt, hB]
  | j :: js, o, m + 1, h => by
    obtain ⟨h1, h2, h3⟩ := h 0 (by simp)
    obtain ⟨g1, g2⟩ := serial_use hB (t := t) (js := js) (o := o + j.long) (m := m) (fun i hi => by simpa [jg] using h (i + 1) (by simpa using hi))
    simp only [jg, List.getD_cons_zero] at h1 h2 h3
    simp only [serial, List.take_succ_cons, useAt]
    by_cases a : o ≤ t ∧ t < o + j.long
    · rw [if_pos a, g2 a.2]
      exact ⟨by omega, fun h => by omega⟩
    · rw [if_neg a]
      exact ⟨by omega, fun h => by rw [g2 (by omega)]; rfl⟩
theorem serial_good {p : Plan} (h : OK p) : Good p ((p.jobs.map (·.long)).sum) (serial 0 p.jobs) := by
  have hlong : ∀ i, i < p.jobs.length → 0 ≤ (jg p.jobs i).long := fun i hi => (h.long i hi).1
  have hfit : ∀ m t, fitsB p ((serial 0 p.jobs).take m) t = true := fun m t => by
    rw [fitsB_iff]
    intro c hc
    exact (serial_use (h.cap c hc).1 (fun i hi => ⟨hlong i hi, (h.use i c hi hc).1, (h.use i c hi hc).2⟩)).1
  refine ⟨serial_len, fun i hi => ?_, fun i hi => by have := (serial_ge (o := 0) hlong i hi).2; omega⟩
  have h1 := serial_ge (o := 0) hlong i hi
  have h2 := h.all
  have h3 := hlong i hi
  simp only [stepB, okStart, okAft, okMid, hfit, Bool.and_eq_true, decide_eq_true_eq, List.all_eq_true, Bool.or_true, and_true, implies_true]
  refine ⟨by omega, fun a ha => ?_⟩
  have := h.aft i a hi ha
  exact serial_aft hlong a.toNat i (by omega) hi

theorem exists_min {q : Nat → Prop} : ∀ n, q n → ∃ m, q m ∧ ∀ k, k < m → ¬ q k := by
  intro n
  induction n using Nat.strongRecOn with
  | ind n ih =>
    intro h
    by_cases hk : ∃ k, k < n ∧ q k
    · obtain ⟨k, h1, h2⟩ := hk
      exact ih k h1 h2
    · exact ⟨n, h, fun k h1 h2 => hk ⟨k, h1, h2⟩⟩
/-- the least span, and the first starts that have it -/
structure IsLeast (p : Plan) (S : Nat) (z : List Int) : Prop where
  le : S ≤ 30
  here : dfs (SR p S) p.jobs.length [] = some z
  none : ∀ s : Nat, s < S → dfs (SR p s) p.jobs.length [] = none
  low : 0 ≤ leastOf p ∧ leastOf p ≤ S
  len : z.length = p.jobs.length
theorem good_iff {p : Plan} (h : OK p) (s : Int) : dfs (SR p s) p.jobs.length [] ≠ none ↔ ∃ z, Good p s z := by
  obtain ⟨a1, a2⟩ := dfs_spec (SR p s) p.jobs.length []
  constructor
  · intro hn
    cases hd : dfs (SR p s) p.jobs.length [] with
    | none => exact absurd hd hn
    | some z =>
      obtain ⟨t, -, e2, e3, -⟩ := a1 z hd
      exact ⟨t, (feasR h e2).1 e3⟩
  · rintro ⟨z, hg⟩ hn
    exact a2 hn z hg.len ((feasR h hg.len).2 hg)
theorem is_least {p : Plan} (h : OK p) : ∃ S z, IsLeast p S z := by
  have hs := serial_good h
  have h0 : 0 ≤ (p.jobs.map (·.long)).sum := by
    rcases Nat.eq_zero_or_pos p.jobs.length with e | e
    · rw [List.length_eq_zero_iff.1 e]; simp
    · have := serial_ge (o := 0) (fun i hi => (h.long i hi).1) 0 e
      have := (h.long 0 e).1
      omega
  obtain ⟨S, h1, h2⟩ := exists_min (q := fun n : Nat => ∃ z, Good p (n : Int) z) (p.jobs.map (fun j : Job => j.long)).sum.toNat ⟨_, by rw [Int.toNat_of_nonneg h0]; exact hs⟩
  have hle : S ≤ 30 := by
    have := h.all
    rcases Nat.lt_or_ge 30 S with h3 | h3
    · exact absurd ⟨_, by rw [Int.toNat_of_nonneg h0]; exact hs⟩ (h2 (p.jobs.map (fun j : Job => j.long)).sum.toNat (by omega))
    · exact h3
  cases hd : dfs (SR p S) p.jobs.length [] with
  | none => exact absurd hd ((good_iff h S).2 h1)
  | some z =>
    obtain ⟨z', hg⟩ := h1
    obtain ⟨t, e1, e2, -, -⟩ := (dfs_spec (SR p S) p.jobs.length []).1 z hd
    refine ⟨S, z, hle, hd, fun s hs' => ?_, ⟨least_pos h, least_le h hg (by omega)⟩, by rw [e1]; simpa using e2⟩
    cases he : dfs (SR p s) p.jobs.length [] with
    | none => rfl
    | some y => exact absurd ((good_iff h s).1 (by rw [he]; simp)) (h2 s hs')
theorem endOf_ge : ∀ {js : List Job} {ss : List Int} {e : Int}, e ≤ endOf js ss e ∧ ∀ i, i < js.length → i < ss.length → ig ss i + (jg js i).long ≤ endOf js ss e
  | [], ss, e => by simp [endOf]
  | j :: js, [], e => by simp [endOf]
  | j :: js, s :: ss, e => by
    obtain ⟨h1, h2⟩ := endOf_ge (js := js) (ss := ss) (e := max e (s + j.long))
    refine ⟨by simp only [endOf]; omega, fun i hi hi' => ?_⟩
    cases i with
    | zero => simp [endOf, ig, jg]; omega
    | succ i => simpa [endOf, ig, jg] using h2 i (by simpa using hi) (by simpa using hi')
theorem ends_least {p : Plan} (h : OK p) {S : Nat} {z : List Int} (hS : IsLeast p S z) {y : List Int} (hy : y.length = p.jobs.length) (hb : (endsR p y).2 = true) : (S : Int) ≤ (endsR p y).1 := by
  have e := span_eq h hy
  have h1 : (spanR p y).2 = true := by rw [e]; exact hb
  have h2 := spanR_snd.1 h1
  have e3 : (endsR p y).1 = endOf p.jobs y 0 := by
    unfold endsR at hb ⊢
    split at hb
    · rename_i hh; rw [if_pos hh]
    · cases hb
  obtain ⟨g1, g2⟩ := endOf_ge (js := p.jobs) (ss := y) (e := 0)
  rw [e3]
  have hg : Good p ((endOf p.jobs y 0).toNat : Nat) y := ⟨hy, h2, fun i hi => by have := g2 i hi (by omega); omega⟩
  rcases Nat.lt_or_ge (endOf p.jobs y 0).toNat S with h3 | h3
  · exact absurd (hS.none _ h3) ((good_iff h _).2 ⟨y, hg⟩)
  · omega
end Go.Pn
