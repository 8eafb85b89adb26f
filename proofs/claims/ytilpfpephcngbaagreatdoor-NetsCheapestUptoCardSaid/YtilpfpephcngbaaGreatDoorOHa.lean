/- How far nodes are by what arcs cost: as a plain law. What one push leaves when nodes are as near as can be; supplies that are sent on: as plain laws. A text of the prover's own. -/
import Derived.Test.YtilpfpephcngbaaGreatDoorOFa
namespace Go.Fl
open Go Go.Sv Go.Pl Go.Proofs Go.Tb Go.Ut Go.Ne
def cst (l : List Arc) (h : Hop) : Rat := if h.2 = true then -(gt l h.1).cost else (gt l h.1).cost
def ab (q : Rat) : Rat := if q < 0 then -q else q
theorem ab_nn (q : Rat) : 0 ≤ ab q := by unfold ab; split <;> grind
theorem ab_le (q : Rat) : q ≤ ab q ∧ -q ≤ ab q := by unfold ab; split <;> grind
/-- all costs together -/
def costS (l : List Arc) : Nat → Rat
  | 0 => 0
  | i + 1 => costS l i + ab (gt l i).cost
theorem costS_nn (l : List Arc) : ∀ i, 0 ≤ costS l i
  | 0 => Rat.le_refl
  | i + 1 => by
    have := costS_nn l i
    have := ab_nn (gt l i).cost
    simp only [costS]; grind
theorem costS_ge (l : List Arc) : ∀ {j i : Nat}, i < j → ab (gt l i).cost ≤ costS l j
  | j + 1, i, h => by
    have h1 := costS_nn l j
    have h2 := ab_nn (gt l j).cost
    simp only [costS]
    by_cases e : i = j
    · subst e; grind
    · have := costS_ge l (j := j) (i := i) (by omega)
      grind
theorem cst_le {l : List Arc} {h : Hop} (hh : h.1 < l.length) : cst l h ≤ costS l l.length ∧ -(costS l l.length) ≤ cst l h := by
  have h1 := costS_ge l hh
  have h2 := ab_le (gt l h.1).cost
  unfold cst
  split <;> grind
def PotOK (l : List Arc) (x : List Rat) (π : Nat → Rat) : Prop := ∀ h : Hop, h.1 < l.length → 0 < room l x h → π (hto l h) ≤ π (hfr l h) + cst l h
/-- how far the nodes are that are seen -/
structure Rx (n : Nat) (l : List Arc) (x : List Rat) (D : Nat) (π : Nat → Rat) (c : Rat) (seen0 : List Bool) (bh : List Hop) (far : List Rat) (seen : List Bool) : Prop where
  bl : bh.length = n
  fl : far.length = n
  sl : seen.length = n
  sub : ∀ v, v < n → gt seen0 v = true → gt seen v = true
  ex : ∃ (root : Nat → Bool) (rk : Nat → Nat), ∀ v, v < n → gt seen v = true → (root v = true → gt seen0 v = true ∧ gt far v = 0) ∧
    (root v = false → (gt bh v).1 < l.length ∧ 0 < room l x (gt bh v) ∧ hto l (gt bh v) = v ∧ hfr l (gt bh v) < n ∧ gt seen (hfr l (gt bh v)) = true ∧ rk (hfr l (gt bh v)) < rk v ∧ gt far (hfr l (gt bh v)) + cst l (gt bh v) ≤ gt far v)
  lo : ∀ v, v < n → gt seen v = true → π v - c ≤ gt far v
  d : ∀ v, v < n → IsD D (gt far v)
  hi : ∀ v, v < n → gt seen v = true → gt far v ≤ costS l l.length * ((n : Rat) - (falses seen : Rat))
theorem falses_le : ∀ (r : List Bool), falses r ≤ r.length
  | [] => Nat.le_refl _
  | b :: r => by
    have := falses_le r
    simp only [falses, List.length_cons]
    split <;> omega
inductive Dsc (par : Nat → Nat) (nr : Nat → Prop) (to : Nat) : Nat → Prop
  | here : Dsc par nr to to
  | step {v : Nat} (h : nr v) (h' : Dsc par nr to (par v)) : Dsc par nr to v
open Classical in
theorem Rx.upd {n : Nat} {l : List Arc} {x : List Rat} {D : Nat} {π : Nat → Rat} {c : Rat} {seen0 : List Bool} {bh : List Hop} {far : List Rat} {seen : List Bool} (r : Rx n l x D π c seen0 bh far seen) (hn : Net n l) (hp : PotOK l x π) (hD : ∀ h : Hop, h.1 < l.length → IsD D (cst l h))
    {h : Hop} (hh : h.1 < l.length) (h0 : 0 < room l x h) (hs : gt seen (hfr l h) = true) (hu : gt seen (hto l h) = false ∨ gt far (hfr l h) + cst l h < gt far (hto l h)) :
    Rx n l x D π c seen0 (bh.set (hto l h) h) (far.set (hto l h) (gt far (hfr l h) + cst l h)) (seen.set (hto l h) true) := by
  have hf := hfr_lt hn hh
  have ht := hto_lt hn hh
  have ph := hp h hh h0
  have bl := r.bl
  have fl := r.fl
  have sl := r.sl
  obtain ⟨root, rk, he⟩ := r.ex
  have key : ∀ v, Dsc (fun v => hfr l (gt bh v)) (fun v => v < n ∧ gt seen v = true ∧ root v = false) (hto l h) v → v < n → gt seen v = true → gt seen (hto l h) = true ∧ gt far (hto l h) - π (hto l h) ≤ gt far v - π v := fun v hd => by
    induction hd with
    | here => intro _ q; exact ⟨q, Rat.le_refl⟩
    | @step v nr _ ih =>
      intro a b
      obtain ⟨g1, g2, g3, g4, g5, g6, g7⟩ := (he v a b).2 nr.2.2
      obtain ⟨i1, i2⟩ := ih g4 g5
      refine ⟨i1, ?_⟩
      have := hp _ g1 g2
      rw [g3] at this
      grind
  have nd : ¬ Dsc (fun v => hfr l (gt bh v)) (fun v => v < n ∧ gt seen v = true ∧ root v = false) (hto l h) (hfr l h) := fun q => by
    obtain ⟨a, b⟩ := key _ q hf hs
    rcases hu with e | e
    · rw [e] at a; cases a
    · grind
  have hne : hfr l h ≠ hto l h := fun e => nd (by rw [e]; exact .here)
  have eb : ∀ v, v < n → gt (bh.set (hto l h) h) v = if hto l h = v then h else gt bh v := fun v hv => gt_set (by omega)
  have ef : ∀ v, v < n → gt (far.set (hto l h) (gt far (hfr l h) + cst l h)) v = if hto l h = v then gt far (hfr l h) + cst l h else gt far v := fun v hv => gt_set (by omega)
  have es : ∀ v, v < n → gt (seen.set (hto l h) true) v = if hto l h = v then true else gt seen v := fun v hv => gt_set (by omega)
  have es1 : ∀ v, v < n → gt seen v = true → gt (seen.set (hto l h) true) v = true := fun v hv q => by
    rw [es v hv]; split
    · rfl
    · exact q
  have es2 : ∀ v, v < n → gt (seen.set (hto l h) true) v = true → v ≠ hto l h → gt seen v = true := fun v hv q e => by
    rwa [es v hv, if_neg (fun q => e q.symm)] at q
  refine ⟨by simpa using bl, by simpa using fl, by simpa using sl, fun v hv q => es1 v hv (r.sub v hv q), ?_, fun v hv q => ?_, fun v hv => ?_, fun v hv q => ?_⟩
  · obtain ⟨root', er⟩ : ∃ f : Nat → Bool, ∀ v, f v = if v = hto l h then false else root v := ⟨_, fun _ => rfl⟩
    obtain ⟨rk', ek⟩ : ∃ f : Nat → Nat, ∀ v, f v = if Dsc (fun v => hfr l (gt bh v)) (fun v => v < n ∧ gt seen v = true ∧ root v = false) (hto l h) v then rk v + rk (hfr l h) + 1 else rk v := ⟨_, fun _ => rfl⟩
    refine ⟨root', rk', fun v hv hsv => ?_⟩
    rw [eb v hv, ef v hv, er v, ek v]
    by_cases e : v = hto l h
    · subst e
      rw [if_pos rfl, if_pos rfl, if_pos rfl, if_pos .here, ek (hfr l h), if_neg nd]
      refine ⟨fun q => (by cases q), fun _ => ⟨hh, h0, rfl, hf, es1 _ hf hs, by omega, ?_⟩⟩
      rw [ef _ hf, if_neg (fun q => hne q.symm)]
      exact Rat.le_refl
    · have e' : ¬ hto l h = v := fun q => e q.symm
      rw [if_neg e, if_neg e', if_neg e']
      have hsv' := es2 v hv hsv e
      obtain ⟨g, g'⟩ := he v hv hsv'
      refine ⟨g, fun q => ?_⟩
      obtain ⟨g1, g2, g3, g4, g5, g6, g7⟩ := g' q
      refine ⟨g1, g2, g3, g4, es1 _ g4 g5, ?_, ?_⟩
      · by_cases dv : Dsc (fun v => hfr l (gt bh v)) (fun v => v < n ∧ gt seen v = true ∧ root v = false) (hto l h) (hfr l (gt bh v))
        · rw [ek, if_pos dv, if_pos (.step ⟨hv, hsv', q⟩ dv)]; omega
        · have : ¬ Dsc (fun v => hfr l (gt bh v)) (fun v => v < n ∧ gt seen v = true ∧ root v = false) (hto l h) v := fun w => by
            cases w with
            | here => exact e rfl
            | step _ w => exact dv w
          rw [ek, if_neg dv, if_neg this]; exact g6
      · rw [ef _ g4]
        split
        · rename_i e3
          rcases hu with w | w
          · rw [e3, g5] at w; cases w
          · rw [e3] at w; grind
        · exact g7
  · rw [ef v hv]
    split
    · rename_i e
      rw [← e]
      have := r.lo _ hf hs
      grind
    · rename_i e
      exact r.lo v hv (es2 v hv q (fun w => e w.symm))
  · rw [ef v hv]
    split
    · exact (r.d _ hf).add (hD h hh)
    · exact r.d v hv
  · have c1 := cst_le hh
    have c0 := costS_nn l l.length
    have hfrom := r.hi _ hf hs
    cases hst : gt seen (hto l h) with
    | true =>
      have : seen.set (hto l h) true = seen := by
        refine ext_gt' (by simp) fun j hj => ?_
        simp only [List.length_set] at hj
        rw [gt_set hj]; split
        · rename_i e; rw [← e, hst]
        · rfl
      rw [this] at q ⊢
      rw [ef v hv]
      split
      · rename_i e
        rcases hu with w | w
        · rw [hst] at w; cases w
        · have := r.hi _ ht hst
          grind
      · exact r.hi v hv q
    | false =>
      have hfl := falses_set (r := seen) (i := hto l h) (by omega) hst
      have e1 : (falses seen : Rat) = (falses (seen.set (hto l h) true) : Rat) + 1 := by rw [← hfl, Rat.natCast_add]; rfl
      rw [e1] at hfrom
      have e2 : costS l l.length * ((n : Rat) - ((falses (seen.set (hto l h) true) : Rat) + 1)) = costS l l.length * ((n : Rat) - (falses (seen.set (hto l h) true) : Rat)) - costS l l.length := by grind
      rw [e2] at hfrom
      rw [ef v hv]
      split
      · grind
      · rename_i e
        have := r.hi v hv (es2 v hv q (fun w => e w.symm))
        rw [e1, e2] at this
        grind
/-- the first that are seen -/
theorem Rx.init {n : Nat} {l : List Arc} {x : List Rat} {D : Nat} {π : Nat → Rat} {c : Rat} {seen0 : List Bool} {bh : List Hop} {far : List Rat} (hb : bh.length = n) (hf : far.length = n) (hs : seen0.length = n) (h0 : ∀ v, v < n → gt far v = 0) (hl : ∀ v, v < n → gt seen0 v = true → π v ≤ c) : Rx n l x D π c seen0 bh far seen0 where
  bl := hb
  fl := hf
  sl := hs
  sub _ _ q := q
  ex := ⟨fun _ => true, fun _ => 0, fun v hv q => ⟨fun _ => ⟨q, h0 v hv⟩, fun e => (by cases e)⟩⟩
  lo v hv q := by
    have := hl v hv q
    rw [h0 v hv]; grind
  d v hv := by rw [h0 v hv]; exact IsD.zero
  hi v hv _ := by
    rw [h0 v hv]
    have h1 := falses_le seen0
    have h2 : (falses seen0 : Rat) ≤ (n : Rat) := Rat.natCast_le_natCast.2 (by omega)
    exact Rat.mul_nonneg (costS_nn l _) (by grind)
/-- how many are ahead of each -/
def cnt (rk : Nat → Nat) (ok : Nat → Bool) (r : Nat) : Nat → Nat
  | 0 => 0
  | u + 1 => cnt rk ok r u + if ok u = true ∧ rk u < r then 1 else 0
theorem cnt_le (rk : Nat → Nat) (ok : Nat → Bool) (r : Nat) : ∀ n, cnt rk ok r n ≤ n
  | 0 => Nat.le_refl _
  | n + 1 => by
    have := cnt_le rk ok r n
    simp only [cnt]; split <;> omega
theorem cnt_mono {rk : Nat → Nat} {ok : Nat → Bool} {r r' : Nat} (h : r ≤ r') : ∀ n, cnt rk ok r n ≤ cnt rk ok r' n
  | 0 => Nat.le_refl _
  | n + 1 => by
    have := cnt_mono (rk := rk) (ok := ok) h n
    simp only [cnt]
    by_cases c : ok n = true ∧ rk n < r
    · rw [if_pos c, if_pos ⟨c.1, by omega⟩]; omega
    · rw [if_neg c]; omega
theorem cnt_lt {rk : Nat → Nat} {ok : Nat → Bool} {r r' u : Nat} (h : r ≤ r') (h1 : ok u = true) (h2 : ¬ rk u < r) (h3 : rk u < r') : ∀ {n}, u < n → cnt rk ok r n < cnt rk ok r' n
  | n + 1, hu => by
    simp only [cnt]
    by_cases e : u = n
    · subst e
      have := cnt_mono (rk := rk) (ok := ok) h u
      rw [if_neg (fun c => h2 c.2), if_pos ⟨h1, h3⟩]; omega
    · have := cnt_lt h h1 h2 h3 (n := n) (by omega)
      by_cases c : ok n = true ∧ rk n < r
      · rw [if_pos c, if_pos ⟨c.1, by omega⟩]; omega
      · rw [if_neg c]; omega
theorem Rx.low {n : Nat} {l : List Arc} {x : List Rat} {D : Nat} {π : Nat → Rat} {c : Rat} {seen0 : List Bool} {bh : List Hop} {far : List Rat} {seen : List Bool} (r : Rx n l x D π c seen0 bh far seen) {v : Nat} (hv : v < n) (hs : gt seen v = true) : -(costS l l.length * (n : Rat)) ≤ gt far v := by
  obtain ⟨root, rk, he⟩ := r.ex
  have c0 := costS_nn l l.length
  have main : ∀ k v, cnt rk (gt seen) (rk v) n = k → v < n → gt seen v = true → -(costS l l.length * (k : Rat)) ≤ gt far v := fun k => by
    induction k using Nat.strongRecOn with
    | ind k ih =>
      intro v hk hv hs
      cases hr : root v with
      | true =>
        rw [((he v hv hs).1 hr).2]
        have : 0 ≤ costS l l.length * (k : Rat) := Rat.mul_nonneg c0 (Rat.natCast_nonneg)
        grind
      | false =>
        obtain ⟨g1, g2, g3, g4, g5, g6, g7⟩ := (he v hv hs).2 hr
        have h1 : cnt rk (gt seen) (rk (hfr l (gt bh v))) n < k := by
          rw [← hk]
          exact cnt_lt (u := hfr l (gt bh v)) (by omega) g5 (by omega) g6 g4
        have h2 := ih _ h1 _ rfl g4 g5
        generalize cnt rk (gt seen) (rk (hfr l (gt bh v))) n = j at h1 h2
        have h3 := (cst_le g1).2
        have h4 : ((j + 1 : Nat) : Rat) ≤ (k : Rat) := Rat.natCast_le_natCast.2 h1
        rw [Rat.natCast_add] at h4
        have h5 := Rat.mul_le_mul_of_nonneg_left h4 c0
        have h6 : costS l l.length * ((j : Rat) + ((1 : Nat) : Rat)) = costS l l.length * (j : Rat) + costS l l.length := by
          have : ((1 : Nat) : Rat) = 1 := rfl
          rw [this]; grind
        rw [h6] at h5
        grind
  have h1 := main _ v rfl hv hs
  have h2 : (cnt rk (gt seen) (rk v) n : Rat) ≤ (n : Rat) := Rat.natCast_le_natCast.2 (cnt_le rk _ _ n)
  have h3 := Rat.mul_le_mul_of_nonneg_left h2 c0
  grind
theorem Rx.high {n : Nat} {l : List Arc} {x : List Rat} {D : Nat} {π : Nat → Rat} {c : Rat} {seen0 : List Bool} {bh : List Hop} {far : List Rat} {seen : List Bool} (r : Rx n l x D π c seen0 bh far seen) {v : Nat} (hv : v < n) (hs : gt seen v = true) : gt far v ≤ costS l l.length * (n : Rat) := by
  have h1 := r.hi v hv hs
  have h2 : (0 : Rat) ≤ (falses seen : Rat) := Rat.natCast_nonneg
  have h3 : (n : Rat) - (falses seen : Rat) ≤ (n : Rat) := by grind
  have h4 := Rat.mul_le_mul_of_nonneg_left h3 (costS_nn l l.length)
  exact Rat.le_trans h1 h4
def sumN (g : Nat → Nat) : Nat → Nat
  | 0 => 0
  | v + 1 => sumN g v + g v
theorem sumN_eq {g g' : Nat → Nat} : ∀ n, (∀ v, v < n → g v = g' v) → sumN g n = sumN g' n
  | 0, _ => rfl
  | n + 1, h => by simp only [sumN]; rw [sumN_eq n fun v hv => h v (by omega), h n (by omega)]
theorem sumN_lt {g g' : Nat → Nat} {t : Nat} (h : g' t < g t) : ∀ n, t < n → (∀ v, v < n → v ≠ t → g v = g' v) → sumN g' n < sumN g n
  | n + 1, ht, hv => by
    simp only [sumN]
    by_cases e : t = n
    · subst e
      rw [sumN_eq t fun v q => hv v (by omega) (by omega)]; omega
    · have := sumN_lt h n (by omega) fun v q w => hv v (by omega) w
      rw [hv n (by omega) (fun q => e q.symm)]; omega
/-- how much nearer all nodes can come -/
def nearM (n : Nat) (l : List Arc) (D : Nat) (far : List Rat) (seen : List Bool) : Nat :=
  sumN (fun v => if gt seen v = true then ((gt far v + costS l l.length * (n : Rat)) * (D : Rat)).floor.toNat else ((costS l l.length * (n : Rat) + costS l l.length * (n : Rat)) * (D : Rat)).floor.toNat + 1) n
theorem IsD.nat {D : Nat} {q : Rat} (h : IsD D q) (k : Nat) : IsD D (q * (k : Rat)) := by
  obtain ⟨z, e⟩ := h
  refine ⟨z * k, ?_⟩
  rw [Rat.intCast_mul, ← e, Rat.intCast_natCast]; grind
theorem IsD.neg {D : Nat} {q : Rat} (h : IsD D q) : IsD D (-q) := by
  have := IsD.zero.sub h
  rwa [show (0 : Rat) - q = -q by grind] at this
theorem IsD.ab {D : Nat} {q : Rat} (h : IsD D q) : IsD D (ab q) := by
  unfold Fl.ab; split
  · exact h.neg
  · exact h
theorem IsD.fl_lt {D : Nat} (hD : D ≠ 0) {a b : Rat} (ha : IsD D a) (hb : IsD D b) (h0 : 0 ≤ a) (h : a < b) : (a * (D : Rat)).floor.toNat < (b * (D : Rat)).floor.toNat := by
  have hDp : (0 : Rat) < (D : Rat) := Rat.natCast_pos.2 (Nat.pos_of_ne_zero hD)
  obtain ⟨z, e⟩ := ha
  obtain ⟨w, f⟩ := hb
  rw [e, f, Rat.floor_intCast, Rat.floor_intCast]
  have h1 : (z : Rat) < (w : Rat) := by rw [← e, ← f]; exact Rat.mul_lt_mul_of_pos_right h hDp
  have h2 : z < w := Rat.intCast_lt_intCast.1 h1
  have h3 : (0 : Rat) ≤ (z : Rat) := by rw [← e]; exact Rat.mul_nonneg h0 (Rat.le_of_lt hDp)
  have h4 : 0 ≤ z := Rat.intCast_nonneg.1 h3
  omega
theorem IsD.fl_le {D : Nat} {a b : Rat} (h : a ≤ b) : (a * (D : Rat)).floor.toNat ≤ (b * (D : Rat)).floor.toNat := by
  have hDp : (0 : Rat) ≤ (D : Rat) := Rat.natCast_nonneg
  have := Rat.floor_monotone (Rat.mul_le_mul_of_nonneg_right h hDp)
  omega
theorem near_lt {n : Nat} {l : List Arc} {x : List Rat} {D : Nat} (hD0 : D ≠ 0) {π : Nat → Rat} {c : Rat} {seen0 : List Bool} {bh : List Hop} {far : List Rat} {seen : List Bool} (r : Rx n l x D π c seen0 bh far seen) (hn : Net n l) (hp : PotOK l x π) (hD : ∀ h : Hop, h.1 < l.length → IsD D (cst l h))
    (hC : IsD D (costS l l.length)) {h : Hop} (hh : h.1 < l.length) (h0 : 0 < room l x h) (hs : gt seen (hfr l h) = true) (hu : gt seen (hto l h) = false ∨ gt far (hfr l h) + cst l h < gt far (hto l h)) :
    nearM n l D (far.set (hto l h) (gt far (hfr l h) + cst l h)) (seen.set (hto l h) true) < nearM n l D far seen := by
  have q := r.upd hn hp hD hh h0 hs hu
  have ht := hto_lt hn hh
  have hf := hfr_lt hn hh
  have fl := r.fl
  have sl := r.sl
  have s1 : gt (seen.set (hto l h) true) (hto l h) = true := by rw [gt_set (by omega), if_pos rfl]
  have f1 : gt (far.set (hto l h) (gt far (hfr l h) + cst l h)) (hto l h) = gt far (hfr l h) + cst l h := by rw [gt_set (by omega), if_pos rfl]
  have a1 := q.low ht s1
  have a2 := q.high ht s1
  rw [f1] at a1 a2
  refine sumN_lt (t := hto l h) ?_ n ht fun v hv e => ?_
  · simp only [s1, f1, if_true]
    cases hst : gt seen (hto l h) with
    | true =>
      simp only [if_true]
      rcases hu with w | w
      · rw [hst] at w; cases w
      · exact IsD.fl_lt hD0 (((r.d _ hf).add (hD h hh)).add (hC.nat n)) ((r.d _ ht).add (hC.nat n)) (by grind) (by grind)
    | false =>
      simp only [Bool.false_eq_true, if_false]
      have := IsD.fl_le (D := D) (a := gt far (hfr l h) + cst l h + costS l l.length * (n : Rat)) (b := costS l l.length * (n : Rat) + costS l l.length * (n : Rat)) (by grind)
      omega
  · have z1 : gt (seen.set (hto l h) true) v = gt seen v := by rw [gt_set (by omega), if_neg (fun q => e q.symm)]
    have z2 : gt (far.set (hto l h) (gt far (hfr l h) + cst l h)) v = gt far v := by rw [gt_set (by omega), if_neg (fun q => e q.symm)]
    simp only [z1, z2]
/-- all nodes that are seen are as near as can be -/
def Near (l : List Arc) (x : List Rat) (far : List Rat) (seen : List Bool) : Prop :=
  ∀ h : Hop, h.1 < l.length → gt seen (hfr l h) = true → 0 < room l x h → gt seen (hto l h) = true ∧ gt far (hto l h) ≤ gt far (hfr l h) + cst l h
/-- the arcs that were looked at -/
def Nearer (l : List Arc) (x : List Rat) (far : List Rat) (seen : List Bool) (i q : Nat) : Prop :=
  ∀ h : Hop, h.1 < l.length → (h.1 < i ∨ (h.1 = i ∧ (if h.2 = true then 1 else 0) < q)) → gt seen (hfr l h) = true → 0 < room l x h → gt seen (hto l h) = true ∧ gt far (hto l h) ≤ gt far (hfr l h) + cst l h
theorem Nearer.zero {l : List Arc} {x far : List Rat} {seen : List Bool} : Nearer l x far seen 0 0 := fun h _ q _ _ => by omega
theorem Nearer.all {l : List Arc} {x far : List Rat} {seen : List Bool} (h : Nearer l x far seen l.length 0) : Near l x far seen := fun g q1 => h g q1 (.inl q1)
theorem Nearer.both {l : List Arc} {x far : List Rat} {seen : List Bool} {i : Nat} (h : Nearer l x far seen i 2) : Nearer l x far seen (i + 1) 0 := fun g q1 q2 q3 q4 => by
  refine h g q1 ?_ q3 q4
  rcases q2 with q2 | ⟨_, q2⟩
  · by_cases e : g.1 < i
    · exact .inl e
    · exact .inr ⟨by omega, by split <;> omega⟩
  · omega
theorem Nearer.more {l : List Arc} {x far : List Rat} {seen : List Bool} {i q : Nat} {b : Bool} (h : Nearer l x far seen i q) (hb : (if b = true then 1 else 0) = q) (hn : gt seen (hfr l (i, b)) = true → 0 < room l x (i, b) → gt seen (hto l (i, b)) = true ∧ gt far (hto l (i, b)) ≤ gt far (hfr l (i, b)) + cst l (i, b)) : Nearer l x far seen i (q + 1) := fun g q1 q2 q3 q4 => by
  rcases q2 with q2 | ⟨q2, q5⟩
  · exact h g q1 (.inl q2) q3 q4
  · by_cases e : (if g.2 = true then 1 else 0) < q
    · exact h g q1 (.inr ⟨q2, e⟩) q3 q4
    · have e2 : g = (i, b) := by
        obtain ⟨gi, gb⟩ := g
        simp only at q2 e q5
        subst q2
        congr 1
        revert hb e q5
        cases gb <;> cases b <;> simp <;> omega
      rw [e2] at q3 q4 ⊢
      exact hn q3 q4
/-! how great the numbers are -/
theorem IsD.qwA {D : Nat} {q c : Rat} {k j : Nat} (h : IsD D q) (hD : D ≠ 0) (h0 : -c ≤ q) (hc : q ≤ c) (w1 : fw k c.num) (w2 : fw j (D : Int)) (h1 : 1 ≤ k) : Proofs.qw (k + j) q := by
  by_cases e : 0 ≤ q
  · exact h.qw hD e hc w1 w2 h1
  · have := qw_neg (h.neg.qw hD (by grind) (by grind) w1 w2 h1)
    rwa [show - -q = q by grind] at this
def densR : List Rat → Nat
  | [] => 1
  | a :: r => a.den * densR r
theorem densR_pos : ∀ l, densR l ≠ 0
  | [] => by decide
  | a :: r => by
    have := densR_pos r
    have := a.den_nz
    exact Nat.mul_ne_zero ‹_› ‹_›
theorem densR_dvd : ∀ {l : List Rat} {a : Rat}, a ∈ l → a.den ∣ densR l
  | b :: r, a, h => by
    rcases List.mem_cons.1 h with e | e
    · rw [e]; exact Nat.dvd_mul_right _ _
    · exact Nat.dvd_trans (densR_dvd e) (Nat.dvd_mul_left _ _)
theorem densR_fw : ∀ {l : List Rat}, (∀ a ∈ l, qw 2200 a) → fw (1 + 2200 * l.length) (densR l : Int)
  | [], _ => fw_one (by omega)
  | a :: r, h => by
    have h1 := densR_fw (l := r) fun b hb => h b (List.mem_cons_of_mem _ hb)
    have h2 := (h a (by simp)).2
    have : ((densR (a :: r) : Nat) : Int) = (a.den : Int) * (densR r : Int) := by show ((a.den * densR r : Nat) : Int) = _; push_cast; rfl
    rw [this]
    exact fw_mono (fw_mul h2 h1) (by simp; omega)
theorem qw_ab {k : Nat} {q : Rat} (h : qw k q) : qw k (ab q) := by
  unfold ab; split
  · exact qw_neg h
  · exact h
theorem qw_costS {l : List Arc} (hw : ArcW l) : ∀ i, i ≤ l.length → qw (1 + 2201 * i) (costS l i)
  | 0, _ => qw_zero _ (by omega)
  | i + 1, h => qw_mono (qw_add (qw_costS hw i (by omega)) (qw_ab (hw.cost i (by omega)))) (by omega)
/-- the costs' denominators -/
def Dc (l : List Arc) : Nat := densR (l.map (·.cost))
theorem Dc_pos (l : List Arc) : Dc l ≠ 0 := densR_pos _
theorem Dc_fw {l : List Arc} (hw : ArcW l) : fw (1 + 2200 * l.length) (Dc l : Int) := by
  have := densR_fw (l := l.map (·.cost)) fun a ha => by
    obtain ⟨b, hb, rfl⟩ := List.mem_map.1 ha
    obtain ⟨j, hj, rfl⟩ := List.getElem_of_mem hb
    rw [gt_get hj]; exact hw.cost j hj
  rwa [List.length_map] at this
theorem Dc_cost {l : List Arc} {i : Nat} (h : i < l.length) : IsD (Dc l) (gt l i).cost := IsD.of (densR_dvd (List.mem_map.2 ⟨_, gt_mem h, rfl⟩))
theorem Dc_cst {l : List Arc} {h : Hop} (hh : h.1 < l.length) : IsD (Dc l) (cst l h) := by
  unfold cst; split
  · exact (Dc_cost hh).neg
  · exact Dc_cost hh
theorem Dc_costS {l : List Arc} : ∀ i, i ≤ l.length → IsD (Dc l) (costS l i)
  | 0, _ => IsD.zero
  | i + 1, h => (Dc_costS i (by omega)).add (Dc_cost (by omega)).ab
theorem Rx.qw {n : Nat} {l : List Arc} {x : List Rat} {π : Nat → Rat} {c : Rat} {seen0 : List Bool} {bh : List Hop} {far : List Rat} {seen : List Bool} (r : Rx n l x (Dc l) π c seen0 bh far seen) (hn : Net n l) (hw : ArcW l) {v : Nat} (hv : v < n) (hs : gt seen v = true) : Proofs.qw 1400000 (gt far v) := by
  have n2 := hn.n2
  have ml := hn.m
  have w1 : Proofs.qw (660301 + 1) (costS l l.length * (n : Rat)) := qw_mul (qw_mono (qw_costS hw _ (Nat.le_refl _)) (by omega)) (by
    have := qw_int (k := 1) (x := (n : Int)) (wid_le (by omega) (by omega)) (by omega)
    rwa [Rat.intCast_natCast] at this) (by omega)
  exact qw_mono ((r.d v hv).qwA (Dc_pos l) (r.low hv hs) (r.high hv hs) w1.1 (Dc_fw hw) (by omega)) (by omega)
end Go.Fl
namespace Go.Fl
open Go Go.Sv Go.Pl Go.Proofs Go.Tb Go.Ut Go.Ne
theorem ex_max (g : Nat → Rat) : ∀ N, ∃ K, ∀ i, i < N → g i ≤ K
  | 0 => ⟨0, fun i hi => absurd hi (by omega)⟩
  | N + 1 => by
    obtain ⟨K, h⟩ := ex_max g N
    refine ⟨max K (g N), fun i hi => ?_⟩
    by_cases e : i = N
    · subst e; grind
    · have := h i (by omega)
      grind
/-- prices for the rest of the net, after a push -/
theorem pot_step {n : Nat} {l : List Arc} {x y : List Rat} {D : Nat} {π : Nat → Rat} {c : Rat} {seen0 : List Bool} {bh : List Hop} {far : List Rat} {seen : List Bool} {s t : Nat} {most0 m : Rat} {b : Bool} (hn : Net n l) (hp : PotOK l x π) (r : Rx n l x D π c seen0 bh far seen) (nr : Near l x far seen)
    (h0 : ∀ v, v < n → gt seen0 v = true → v = s) (p : Pushed n l x s t bh seen most0 b y m) : ∃ π', PotOK l y π' := by
  obtain ⟨K1, k1⟩ := ex_max (fun i => gt far (hto l (i, false)) - π (hfr l (i, false)) - cst l (i, false)) l.length
  obtain ⟨K2, k2⟩ := ex_max (fun i => gt far (hto l (i, true)) - π (hfr l (i, true)) - cst l (i, true)) l.length
  obtain ⟨root, rk, he⟩ := r.ex
  have kk : ∀ h : Hop, h.1 < l.length → gt far (hto l h) ≤ π (hfr l h) + max K1 K2 + cst l h := fun h hh => by
    obtain ⟨i, b⟩ := h
    cases b
    · have := k1 i hh
      grind
    · have := k2 i hh
      grind
  refine ⟨fun v => if gt seen v = true then gt far v else π v + max K1 K2, fun h hh hr => ?_⟩
  simp only
  by_cases ha : 0 < room l x h
  · cases hs : gt seen (hfr l h) with
    | true =>
      obtain ⟨a, b⟩ := nr h hh hs ha
      rw [if_pos a, if_pos rfl]; exact b
    | false =>
      have := hp h hh ha
      have := kk h hh
      simp only [Bool.false_eq_true, if_false]
      split
      · assumption
      · grind
  · have hne : gt y h.1 ≠ gt x h.1 := fun e => by
      have : room l y h = room l x h := by unfold room; rw [e]
      rw [this] at hr
      exact ha hr
    obtain ⟨u, u1, u2, u3, u4⟩ := p.un h.1 hh hne
    have hru : root u = false := by
      cases e : root u with
      | false => rfl
      | true => exact absurd (h0 u u1 ((he u u1 u2).1 e).1) u3
    obtain ⟨g1, g2, g3, g4, g5, g6, g7⟩ := (he u u1 u2).2 hru
    have hd : (gt bh u).2 ≠ h.2 := fun e => by
      have : gt bh u = h := Prod.ext u4 e
      rw [this] at g2
      exact ha g2
    have e1 : hfr l h = u := by rw [hop_opp (l := l) (g := h) (h := gt bh u) u4.symm (fun e => hd e.symm), g3]
    have e2 : hto l h = hfr l (gt bh u) := (hop_opp (l := l) (g := gt bh u) (h := h) u4 hd).symm
    have e3 : cst l h = -(cst l (gt bh u)) := by
      unfold cst
      rw [u4]
      cases h1 : h.2 <;> cases h2 : (gt bh u).2 <;> simp [h1, h2] at hd ⊢
    rw [e1, e2, e3, if_pos g5, if_pos u2]
    grind
theorem Rx.rk {n : Nat} {l : List Arc} {x : List Rat} {D : Nat} {π : Nat → Rat} {c : Rat} {seen0 : List Bool} {bh : List Hop} {far : List Rat} {seen : List Bool} {s : Nat} (r : Rx n l x D π c seen0 bh far seen) (h0 : ∀ v, v < n → gt seen0 v = true → v = s) : ∃ rk, Rk n l x s bh seen rk := by
  obtain ⟨root, rk, he⟩ := r.ex
  refine ⟨rk, fun v hv hs hne => ?_⟩
  have hru : root v = false := by
    cases e : root v with
    | false => rfl
    | true => exact absurd (h0 v hv ((he v hv hs).1 e).1) hne
  obtain ⟨g1, g2, g3, g4, g5, g6, g7⟩ := (he v hv hs).2 hru
  exact ⟨g1, g2, g3, g4, g5, g6⟩
/-! supplies -/
theorem IsD.dl {l : List Arc} {x : List Rat} {D : Nat} (h : ∀ i, i < l.length → IsD D (gt x i)) (v : Nat) : ∀ j, j ≤ l.length → IsD D (dl l x v j)
  | 0, _ => IsD.zero
  | j + 1, hj => by
    have h1 := IsD.dl h v j (by omega)
    have h2 := h j (by omega)
    simp only [Ne.dl]
    refine IsD.sub (IsD.add h1 ?_) ?_ <;> split <;> first | exact h2 | exact IsD.zero
/-- what flows at first: what pays for itself -/
def first (l : List Arc) : List Rat := l.map fun a => if a.cost < 0 then a.cap else 0
@[simp] theorem first_len (l : List Arc) : (first l).length = l.length := by simp [first]
theorem gt_first {l : List Arc} {i : Nat} (h : i < l.length) : gt (first l) i = if (gt l i).cost < 0 then (gt l i).cap else 0 := by unfold first; rw [gt_map _ h]
theorem first_within {l : List Arc} (hc : ∀ i, i < l.length → 0 ≤ (gt l i).cap) : Within l (first l) := ⟨by simp, fun i hi => by
  rw [gt_first hi]
  have := hc i hi
  split <;> grind⟩
theorem first_pot {l : List Arc} : PotOK l (first l) (fun _ => 0) := fun h hh hr => by
  unfold room at hr
  unfold cst
  rw [gt_first hh] at hr
  simp only
  split <;> rename_i e
  · rw [if_pos e] at hr
    split at hr
    · grind
    · grind
  · rw [if_neg e] at hr
    split at hr
    · grind
    · grind
/-- flows, and what each node has left -/
structure Chp (n : Nat) (l : List Arc) (k : List Rat) (D : Nat) (x : List Rat) : Prop where
  w : Within l x
  pot : ∃ π, PotOK l x π
  i : ∀ i, i < l.length → IsD D (gt x i)
def lf (l : List Arc) (k x : List Rat) (v : Nat) : Rat := gt k v - dl l x v l.length
theorem IsD.lf {n : Nat} {l : List Arc} {k : List Rat} {D : Nat} {x : List Rat} (c : Chp n l k D x) (hk : ∀ v, v < n → IsD D (gt k v)) (v : Nat) (hv : v < n) : IsD D (lf l k x v) := (hk v hv).sub (IsD.dl c.i v _ (Nat.le_refl _))
theorem IsD.roomC {n : Nat} {l : List Arc} {k : List Rat} {D : Nat} {x : List Rat} (c : Chp n l k D x) (hc : ∀ i, i < l.length → IsD D (gt l i).cap) (h : Hop) (hh : h.1 < l.length) : IsD D (Fl.room l x h) := by
  unfold Fl.room
  split
  · exact c.i _ hh
  · exact (hc _ hh).sub (c.i _ hh)
/-- what is left above nought, in all -/
def posS (g : Nat → Rat) : Nat → Rat
  | 0 => 0
  | v + 1 => posS g v + if 0 < g v then g v else 0
theorem posS_nn (g : Nat → Rat) : ∀ n, 0 ≤ posS g n
  | 0 => Rat.le_refl
  | n + 1 => by
    have := posS_nn g n
    simp only [posS]; split <;> grind
theorem posS_le {g g' : Nat → Rat} : ∀ n, (∀ v, v < n → (0 < g' v → g' v ≤ g v)) → posS g' n ≤ posS g n
  | 0, _ => Rat.le_refl
  | n + 1, h => by
    have h1 := posS_le n fun v hv => h v (by omega)
    have h2 := h n (by omega)
    simp only [posS]
    split
    · rename_i e
      have := h2 e
      rw [if_pos (by grind)]; grind
    · split <;> grind
theorem posS_lt {g g' : Nat → Rat} {s : Nat} {m : Rat} (hm : 0 ≤ m) (h0 : m ≤ g s) (hs : g' s = g s - m) : ∀ n, s < n → (∀ v, v < n → v ≠ s → (0 < g' v → g' v ≤ g v)) → posS g' n ≤ posS g n - m
  | n + 1, hn, h => by
    simp only [posS]
    by_cases e : s = n
    · subst e
      have h1 := posS_le (g := g) (g' := g') s fun v hv => h v (by omega) (by omega)
      rw [hs]
      split <;> split <;> grind
    · have h1 := posS_lt hm h0 hs n (by omega) fun v hv => h v (by omega)
      have h2 := h n (by omega) (fun q => e q.symm)
      split
      · rename_i e
        have := h2 e
        rw [if_pos (by grind)]; grind
      · split <;> grind
theorem IsD.posS {D : Nat} {g : Nat → Rat} : ∀ n, (∀ v, v < n → IsD D (g v)) → IsD D (posS g n)
  | 0, _ => IsD.zero
  | n + 1, h => by
    simp only [Fl.posS]
    refine (IsD.posS n fun v hv => h v (by omega)).add ?_
    split
    · exact h n (by omega)
    · exact IsD.zero
/-- one more push on the way -/
theorem Chp.step {n : Nat} {l : List Arc} {k : List Rat} {D Dc : Nat} {x y : List Rat} {π : Nat → Rat} {c : Rat} {seen0 : List Bool} {bh : List Hop} {far : List Rat} {seen : List Bool} {s t : Nat} {m : Rat} {most0 : Rat} (hn : Net n l) (a : Chp n l k D x) (hc : ∀ i, i < l.length → IsD D (gt l i).cap) (hk : ∀ v, v < n → IsD D (gt k v))
    (hp : PotOK l x π) (r : Rx n l x Dc π c seen0 bh far seen) (nr : Near l x far seen) (h0 : ∀ v, v < n → gt seen0 v = true → v = s) (hm : IsD D most0) (p : Pushed n l x s t bh seen most0 true y m) : Chp n l k D y := by
  have im : IsD D m := by
    rcases p.or with ⟨e, _⟩ | ⟨g, q, e⟩
    · rw [e]; exact hm
    · rw [e]; exact IsD.roomC a hc g q
  refine ⟨p.w, pot_step hn hp r nr h0 p, fun i hi => ?_⟩
  rcases p.ch i hi with e | e | e <;> rw [e]
  · exact a.i i hi
  · exact (a.i i hi).add im
  · exact (a.i i hi).sub im
theorem lf_push {n : Nat} {l : List Arc} {k x y : List Rat} {s t : Nat} {bh : List Hop} {seen : List Bool} {most0 m : Rat} {b : Bool} (p : Pushed n l x s t bh seen most0 b y m) (v : Nat) : lf l k y v = lf l k x v - (if v = s then m else 0) + (if v = t then m else 0) := by
  unfold lf; rw [p.d v]; grind
def leftM (n : Nat) (l : List Arc) (k : List Rat) (D : Nat) (x : List Rat) : Nat := (posS (lf l k x) n * (D : Rat)).floor.toNat
theorem left_lt {n : Nat} {l : List Arc} {k x y : List Rat} {D : Nat} (hD : D ≠ 0) {s t : Nat} {bh : List Hop} {seen : List Bool} {most0 m : Rat} {b : Bool} (p : Pushed n l x s t bh seen most0 b y m) (hs : s < n) (hst : s ≠ t) (a : Chp n l k D x) (a' : Chp n l k D y) (hk : ∀ v, v < n → IsD D (gt k v))
    (h1 : m ≤ lf l k x s) (h2 : m ≤ -(lf l k x t)) : leftM n l k D y < leftM n l k D x := by
  have hp := p.pos
  have es : lf l k y s = lf l k x s - m := by rw [lf_push p, if_pos rfl, if_neg hst]; grind
  have := posS_lt (g := lf l k x) (g' := lf l k y) (Rat.le_of_lt hp) h1 es n hs fun v hv e q => by
    rw [lf_push p, if_neg e] at q ⊢
    split
    · rename_i e2
      rw [if_pos e2, e2] at q
      grind
    · grind
  exact IsD.fl_lt hD (IsD.posS n fun v hv => IsD.lf a' hk v hv) (IsD.posS n fun v hv => IsD.lf a hk v hv) (posS_nn _ _) (by grind)
/-! where it ends -/
theorem sum_dl {n : Nat} {l : List Arc} (hn : Net n l) (x : List Rat) : ∀ j, j ≤ l.length → ss (List.replicate n true) (fun v => dl l x v j) n = 0
  | 0, _ => by
    have : ∀ m, ss (List.replicate n true) (fun v => dl l x v 0) m = 0 := fun m => by
      induction m with
      | zero => rfl
      | succ m ih =>
        simp only [dl] at ih
        simp only [ss, dl, ih]; split <;> grind
    exact this n
  | j + 1, hj => by
    have ih := sum_dl hn x j (by omega)
    obtain ⟨f, t, ef, et, hf, ht⟩ := hn.a j (by omega)
    have e : (fun v => dl l x v (j + 1)) = fun v => (dl l x v j + if f = v then gt x j else 0) + if t = v then -(gt x j) else 0 := by
      funext v
      simp only [dl, ef, et, Int.toNat_natCast]
      split <;> split <;> grind
    rw [e, ss_one _ _ t (-(gt x j)) true n, ss_one _ _ f (gt x j) true n, ih, gt_rep hf, gt_rep ht, if_pos ⟨hf, rfl⟩, if_pos ⟨ht, rfl⟩]
    grind
theorem ss_sub {seen : List Bool} {a b : Nat → Rat} : ∀ n, ss seen (fun v => a v - b v) n = ss seen a n - ss seen b n
  | 0 => by simp only [ss]; grind
  | n + 1 => by
    simp only [ss]
    rw [ss_sub n]
    split <;> grind
theorem ss_le {seen : List Bool} {g : Nat → Rat} : ∀ n, (∀ v, v < n → gt seen v = true → g v ≤ 0) → ss seen g n ≤ 0
  | 0, _ => Rat.le_refl
  | n + 1, h => by
    have h1 := ss_le n fun v hv => h v (by omega)
    simp only [ss]
    split
    · have := h n (by omega) ‹_›
      grind
    · grind
theorem ss_lt {seen : List Bool} {g : Nat → Rat} {s : Nat} (h : g s < 0) (hs : gt seen s = true) : ∀ n, s < n → (∀ v, v < n → gt seen v = true → g v ≤ 0) → ss seen g n < 0
  | n + 1, hn, hg => by
    simp only [ss]
    by_cases e : s = n
    · subst e
      have h1 := ss_le (seen := seen) (g := g) s fun v hv => hg v (by omega)
      rw [if_pos hs]; grind
    · have h1 := ss_lt h hs n (by omega) fun v hv => hg v (by omega)
      split
      · have := hg n (by omega) ‹_›
        grind
      · grind
/-- nothing is left, once nothing is left above nought -/
theorem none_left {n : Nat} {l : List Arc} (hn : Net n l) {k x : List Rat} (hk : ss (List.replicate n true) (gt k) n = 0) (h : ∀ v, v < n → ¬ 0 < lf l k x v) : ∀ v, v < n → dl l x v l.length = gt k v := fun v hv => by
  have h1 := sum_dl hn x l.length (Nat.le_refl _)
  have h2 := ss_sub (seen := List.replicate n true) (a := gt k) (b := fun v => dl l x v l.length) n
  rw [hk, h1] at h2
  have h3 : ¬ lf l k x v < 0 := fun q => by
    have := ss_lt (seen := List.replicate n true) (g := fun v => gt k v - dl l x v l.length) (s := v) q (gt_rep hv) n hv fun w hw _ => by
      have := h w hw
      unfold lf at this
      grind
    rw [h2] at this
    grind
  have h4 := h v hv
  unfold lf at h3 h4
  grind
theorem ss_hasv (k : List Rat) (seen : List Bool) : ∀ n, ss seen (gt k) n = hasv k seen n
  | 0 => rfl
  | n + 1 => by
    simp only [ss, hasv]
    rw [ss_hasv k seen n]
    split <;> grind
/-- a side that has more than leaves it -/
theorem hoff {n : Nat} {l : List Arc} (hn : Net n l) {k x : List Rat} (hx : Within l x) {seen : List Bool} (r : Shut l x seen) {s : Nat} (hs : s < n) (hss : gt seen s = true) (h1 : 0 < lf l k x s) (h2 : ∀ v, v < n → gt seen v = true → 0 ≤ lf l k x v) : thr l seen l.length < hasv k seen n := by
  have e1 := ss_dl hn hx r l.length (Nat.le_refl _)
  have e2 := ss_hasv k seen n
  have e3 := ss_sub (seen := seen) (a := fun v => dl l x v l.length) (b := gt k) n
  have e4 := ss_lt (seen := seen) (g := fun v => dl l x v l.length - gt k v) (s := s) (by unfold lf at h1; grind) hss n hs fun v hv q => by
    have := h2 v hv q
    unfold lf at this
    grind
  rw [e3, e1, e2] at e4
  grind
/-- prices that show that nothing is cheaper -/
theorem no_slack {l : List Arc} {x far : List Rat} {n : Nat} (hn : Net n l) {seen : List Bool} (hs : ∀ v, v < n → gt seen v = true) (nr : Near l x far seen) (p : Ship) (e1 : p.flow = x) (e2 : p.prices = far) (i : Nat) (hi : i < l.length) : ¬ slack l p i := fun h => by
  have c1 := nr (i, false) hi (hs _ (hfr_lt hn (h := (i, false)) hi))
  have c2 := nr (i, true) hi (hs _ (hfr_lt hn (h := (i, true)) hi))
  unfold slack red at h
  simp only [room, hto, hfr, cst, Bool.false_eq_true, if_false, if_true] at c1 c2
  rw [e1, e2] at h
  rcases h with ⟨a, b⟩ | ⟨a, b⟩
  · have := (c1 (by grind)).2
    grind
  · have := (c2 b).2
    grind
end Go.Fl

