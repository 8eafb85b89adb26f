/- Plans of jobs, in plain Lean: what the document says of them, and that the program's way of looking at moments says the same. A text of the prover's own; it names no program. -/
import Derived.Test.YtlkaaaoeemejoaaDoorQNm
namespace Go.Pn
open Go
structure Job where
  long : Int
  after : List Int
  uses : List Int
structure Plan where
  jobs : List Job
  caps : List Int
def ig (l : List Int) (i : Nat) : Int := l.getD i 0
def jg (l : List Job) (i : Nat) : Job := l.getD i ⟨0, [], []⟩
theorem ig_eq {l : List Int} {i : Nat} (h : i < l.length) : ig l i = l[i] := by simp [ig, List.getD_eq_getElem?_getD, h]
theorem jg_eq {l : List Job} {i : Nat} (h : i < l.length) : jg l i = l[i] := by simp [jg, List.getD_eq_getElem?_getD, h]
theorem ig_drop {l : List Int} {i : Nat} (h : i < l.length) : l.drop i = ig l i :: l.drop (i + 1) := by rw [ig_eq h]; exact List.drop_eq_getElem_cons h
theorem jg_drop {l : List Job} {i : Nat} (h : i < l.length) : l.drop i = jg l i :: l.drop (i + 1) := by rw [jg_eq h]; exact List.drop_eq_getElem_cons h

/-- a use below 0 or above its cap -/
def badUse : List Int → List Int → Bool
  | u :: us, c :: cs => decide (u < 0) || decide (c < u) || badUse us cs
  | _, _ => false
def badAft (i : Int) (l : List Int) : Bool := l.any fun a => decide (a < 0) || decide (i ≤ a)
def badCap (l : List Int) : Bool := l.any fun c => decide (c < 0) || decide (100000000 < c)
def vJob (caps : List Int) (i : Int) (j : Job) : Nat :=
  if j.long < 0 ∨ 30 < j.long ∨ 7 < j.after.length then 2 else if j.uses.length ≠ caps.length then 4 else if badUse j.uses caps = true then 4 else if badAft i j.after = true then 4 else 0
def vJobs (caps : List Int) : Int → Int → List Job → Nat
  | _, s, [] => if 30 < s then 2 else 0
  | i, s, j :: r => if vJob caps i j = 0 then vJobs caps (i + 1) (s + j.long) r else vJob caps i j
/-- 0: a plan; else an error's number -/
def pvalid (p : Plan) : Nat := if 7 < p.jobs.length ∨ 7 < p.caps.length then 2 else if badCap p.caps = true then 2 else vJobs p.caps 0 0 p.jobs

/-- how much of a kind is used at a moment -/
def useAt (c : Nat) (t : Int) : List Job → List Int → Int
  | j :: js, s :: ss => (if s ≤ t ∧ t < s + j.long then ig j.uses c else 0) + useAt c t js ss
  | _, _ => 0
/-- from kind c on there is enough -/
def fitsFrom (jobs : List Job) (starts : List Int) (t : Int) : Nat → List Int → Bool
  | c, m :: ms => decide (useAt c t jobs starts ≤ m) && fitsFrom jobs starts t (c + 1) ms
  | _, [] => true
def fitsB (p : Plan) (starts : List Int) (t : Int) : Bool := fitsFrom p.jobs starts t 0 p.caps
def okStart (s : Int) : Bool := decide (0 ≤ s) && decide (s ≤ 100000000)
def okAft (p : Plan) (starts : List Int) (s : Int) (l : List Int) : Bool := l.all fun a => decide (ig starts a.toNat + (jg p.jobs a.toNat).long ≤ s)
/-- a job ahead that begins while this one runs -/
def okMid (p : Plan) (starts : List Int) (i : Nat) (k : Nat) : Bool :=
  !(decide (ig starts i < ig starts k) && decide (ig starts k < ig starts i + (jg p.jobs i).long)) || fitsB p (starts.take (i + 1)) (ig starts k)
def stepB (p : Plan) (starts : List Int) (i : Nat) : Bool :=
  okStart (ig starts i) && okAft p starts (ig starts i) (jg p.jobs i).after && fitsB p (starts.take (i + 1)) (ig starts i) && (List.range i).all (okMid p starts i)
def endOf : List Job → List Int → Int → Int
  | j :: js, s :: ss, e => endOf js ss (max e (s + j.long))
  | _, _, e => e
/-- the program's way -/
def spanR (p : Plan) (starts : List Int) : Int × Bool := if (List.range p.jobs.length).all (stepB p starts) = true then (endOf p.jobs starts 0, true) else (0, false)
def endB (p : Plan) (starts : List Int) (i : Nat) : Bool := okAft p starts (ig starts i) (jg p.jobs i).after && fitsB p starts (ig starts i)
/-- the document's way -/
def endsR (p : Plan) (starts : List Int) : Int × Bool := if starts.all okStart = true ∧ (List.range starts.length).all (endB p starts) = true then (endOf p.jobs starts 0, true) else (0, false)

theorem fitsFrom_iff {jobs : List Job} {starts : List Int} {t : Int} : ∀ {ms : List Int} {c : Nat}, fitsFrom jobs starts t c ms = true ↔ ∀ i (h : i < ms.length), useAt (c + i) t jobs starts ≤ ms[i]
  | [], c => by simp [fitsFrom]
  | m :: ms, c => by
    simp only [fitsFrom, Bool.and_eq_true, decide_eq_true_eq, fitsFrom_iff (ms := ms) (c := c + 1)]
    constructor
    · rintro ⟨h1, h2⟩ i hi
      cases i with
      | zero => exact h1
      | succ i =>
        have := h2 i (by simpa using hi)
        rw [show c + (i + 1) = c + 1 + i by omega]
        simpa using this
    · intro h
      refine ⟨h 0 (by simp), fun i hi => ?_⟩
      have := h (i + 1) (by simpa using hi)
      rw [show c + 1 + i = c + (i + 1) by omega]
      simpa using this
theorem fitsB_iff {p : Plan} {starts : List Int} {t : Int} : fitsB p starts t = true ↔ ∀ c, c < p.caps.length → useAt c t p.jobs starts ≤ ig p.caps c := by
  simp only [fitsB, fitsFrom_iff, Nat.zero_add]
  exact ⟨fun h c hc => by rw [ig_eq hc]; exact h c hc, fun h c hc => by rw [← ig_eq hc]; exact h c hc⟩

theorem useAt_succ {c : Nat} {t : Int} : ∀ {m : Nat} {js : List Job} {ss : List Int}, m < js.length → m < ss.length →
    useAt c t js (ss.take (m + 1)) = useAt c t js (ss.take m) + (if ig ss m ≤ t ∧ t < ig ss m + (jg js m).long then ig (jg js m).uses c else 0)
  | 0, j :: js, s :: ss, _, _ => by
    cases js <;> simp [useAt, ig, jg]
  | m + 1, j :: js, s :: ss, h1, h2 => by
    have ih := useAt_succ (c := c) (t := t) (m := m) (js := js) (ss := ss) (by simpa using h1) (by simpa using h2)
    simp only [List.take_succ_cons, useAt, ih, Int.add_assoc]
    simp [ig, jg]
theorem useAt_take {c : Nat} {t : Int} {js : List Job} {ss : List Int} : useAt c t js (ss.take js.length) = useAt c t js ss := by
  induction js generalizing ss with
  | nil => cases ss <;> simp [useAt]
  | cons j js ih => cases ss with
    | nil => simp [useAt]
    | cons s ss => simp [useAt, ih]

/-- what a valid plan is -/
structure OK (p : Plan) : Prop where
  nj : p.jobs.length ≤ 7
  nc : p.caps.length ≤ 7
  cap : ∀ c, c < p.caps.length → 0 ≤ ig p.caps c ∧ ig p.caps c ≤ 100000000
  long : ∀ i, i < p.jobs.length → 0 ≤ (jg p.jobs i).long ∧ (jg p.jobs i).long ≤ 30 ∧ (jg p.jobs i).after.length ≤ 7
  usl : ∀ i, i < p.jobs.length → (jg p.jobs i).uses.length = p.caps.length
  use : ∀ i c, i < p.jobs.length → c < p.caps.length → 0 ≤ ig (jg p.jobs i).uses c ∧ ig (jg p.jobs i).uses c ≤ ig p.caps c
  aft : ∀ i a, i < p.jobs.length → a ∈ (jg p.jobs i).after → 0 ≤ a ∧ a < i
  all : (p.jobs.map (·.long)).sum ≤ 30

theorem badUse_not : ∀ {us cs : List Int}, badUse us cs = false → ∀ c, c < us.length → c < cs.length → 0 ≤ ig us c ∧ ig us c ≤ ig cs c
  | u :: us, d :: cs, h, 0, _, _ => by
    simp only [badUse, Bool.or_eq_false_iff, decide_eq_false_iff_not] at h
    simp [ig]; omega
  | u :: us, d :: cs, h, c + 1, h1, h2 => by
    simp only [badUse, Bool.or_eq_false_iff, decide_eq_false_iff_not] at h
    have := badUse_not h.2 c (by simpa using h1) (by simpa using h2)
    simpa [ig] using this
theorem vJobs_ok {caps : List Int} : ∀ {js : List Job} {i s : Int}, vJobs caps i s js = 0 → s + (js.map (·.long)).sum ≤ 30 ∧ ∀ k, k < js.length → vJob caps (i + k) (jg js k) = 0
  | [], i, s, h => by
    simp only [vJobs] at h
    refine ⟨?_, fun k hk => absurd hk (by simp)⟩
    by_cases h' : 30 < s <;> simp_all
  | j :: js, i, s, h => by
    simp only [vJobs] at h
    split at h
    · rename_i h0
      obtain ⟨h1, h2⟩ := vJobs_ok h
      refine ⟨by simp; omega, fun k hk => ?_⟩
      cases k with
      | zero => simpa [jg] using h0
      | succ k =>
        have := h2 k (by simpa using hk)
        rw [show i + ((k + 1 : Nat) : Int) = i + 1 + k by omega]
        simpa [jg] using this
    · omega
theorem ok_of {p : Plan} (h : pvalid p = 0) : OK p := by
  unfold pvalid at h
  split at h
  · omega
  · rename_i h1
    split at h
    · omega
    · rename_i h2
      obtain ⟨h3, h4⟩ := vJobs_ok h
      have key : ∀ i, i < p.jobs.length → (0 ≤ (jg p.jobs i).long ∧ (jg p.jobs i).long ≤ 30 ∧ (jg p.jobs i).after.length ≤ 7) ∧ (jg p.jobs i).uses.length = p.caps.length ∧ badUse (jg p.jobs i).uses p.caps = false ∧ badAft i (jg p.jobs i).after = false := fun i hi => by
        have := h4 i hi
        unfold vJob at this
        split at this
        · omega
        · split at this
          · omega
          · split at this
            · omega
            · split at this
              · omega
              · rename_i a b c d
                simp only [Int.zero_add] at d
                exact ⟨by omega, by omega, by simpa using c, by simpa using d⟩
      refine ⟨by omega, by omega, fun c hc => ?_, fun i hi => (key i hi).1, fun i hi => (key i hi).2.1, fun i c hi hc => ?_, fun i a hi ha => ?_, by omega⟩
      · simp only [badCap, Bool.not_eq_true, List.any_eq_false, Bool.or_eq_true, decide_eq_true_eq] at h2
        have := h2 (ig p.caps c) (by rw [ig_eq hc]; exact List.getElem_mem hc)
        omega
      · obtain ⟨-, k2, k3, -⟩ := key i hi
        exact badUse_not k3 c (by omega) hc
      · obtain ⟨-, -, -, k4⟩ := key i hi
        simp only [badAft, List.any_eq_false, Bool.or_eq_true, decide_eq_true_eq] at k4
        have := k4 a ha
        omega

theorem useAt_mono {p : Plan} (hp : OK p) {starts : List Int} (hl : starts.length ≤ p.jobs.length) {c : Nat} (hc : c < p.caps.length) {t : Int} : ∀ {n m : Nat}, m ≤ n → n ≤ starts.length → useAt c t p.jobs (starts.take m) ≤ useAt c t p.jobs (starts.take n)
  | 0, m, h1, h2 => by
    have : m = 0 := by omega
    subst this; exact Int.le_refl _
  | n + 1, m, h1, h2 => by
    rcases Nat.lt_or_ge m (n + 1) with h | h
    · have ih := useAt_mono hp hl hc (t := t) (n := n) (m := m) (by omega) (by omega)
      rw [useAt_succ (by omega) (by omega)]
      have := (hp.use n c (by omega) hc).1
      split <;> omega
    · have : m = n + 1 := by omega
      subst this; exact Int.le_refl _

/-- the program's way and the document's -/
theorem span_eq {p : Plan} (hp : OK p) {starts : List Int} (hl : starts.length = p.jobs.length) : spanR p starts = endsR p starts := by
  have key : ((List.range p.jobs.length).all (stepB p starts) = true) ↔ (starts.all okStart = true ∧ (List.range starts.length).all (endB p starts) = true) := by
    simp only [List.all_eq_true, List.mem_range, stepB, endB, Bool.and_eq_true, fitsB_iff, okMid, Bool.or_eq_true, Bool.not_eq_true', Bool.and_eq_false_iff, decide_eq_false_iff_not]
    constructor
    · intro h
      refine ⟨fun s hs => ?_, fun i hi => ⟨(h i (by omega)).1.1.2, fun c hc => ?_⟩⟩
      · obtain ⟨i, hi, rfl⟩ := List.getElem_of_mem hs
        rw [← ig_eq hi]; exact (h i (by omega)).1.1.1
      · have claim : ∀ m, i < m → m ≤ starts.length → useAt c (ig starts i) p.jobs (starts.take m) ≤ ig p.caps c := by
          intro m
          induction m with
          | zero => intro h; omega
          | succ m ih =>
            intro h1 h2
            rcases Nat.lt_or_ge i m with h3 | h3
            · by_cases hr : ig starts m ≤ ig starts i ∧ ig starts i < ig starts m + (jg p.jobs m).long
              · by_cases he : ig starts m = ig starts i
                · rw [← he]; exact (h m (by omega)).1.2 c hc
                · rcases (h m (by omega)).2 i h3 with h4 | h4
                  · omega
                  · exact h4 c hc
              · have := ih h3 (by omega)
                rw [useAt_succ (by omega) (by omega), if_neg hr]
                omega
            · have : m = i := by omega
              subst this
              exact (h m (by omega)).1.2 c hc
        have := claim starts.length hi (Nat.le_refl _)
        rwa [List.take_length] at this
    · rintro ⟨h1, h2⟩ i hi
      have mono : ∀ k, k < p.jobs.length → ∀ c, c < p.caps.length → useAt c (ig starts k) p.jobs (starts.take (i + 1)) ≤ ig p.caps c := fun k hk c hc => by
        have a := useAt_mono hp (Nat.le_of_eq hl) hc (t := ig starts k) (m := i + 1) (n := starts.length) (by omega) (Nat.le_refl _)
        rw [List.take_length] at a
        exact Int.le_trans a ((h2 k (by omega)).2 c hc)
      refine ⟨⟨⟨?_, (h2 i (by omega)).1⟩, mono i hi⟩, fun k hk => .inr (mono k (by omega))⟩
      rw [ig_eq (by omega)]; exact h1 _ (List.getElem_mem _)
  unfold spanR endsR
  simp only [key]
end Go.Pn
