/- A table whose rows are written in place, in any order; what matrix.Reduced returns. A text of the prover's own. -/
import Derived.Test.YtilpfpephcngbaaGreatDoorMMs
import Derived.Test.YtilpfpephcngbaaGreatDoorMMv
namespace Go.Mx
open Go Go.Sv Go.Pl Go.Proofs Go.Tb Go.Ut
def vw (w i : Nat) : SV := .view (i + 1) 0 w
def outV (w : Nat) (π : List Nat) : List SV := π.map (vw w)
def rwT (C : List (List Rat)) : Tab := C.map fun r => some ⟨4, r.map rsv, false⟩
def mxT (w : Nat) (π : List Nat) (C : List (List Rat)) (tl : Tab) : Tab := some ⟨1, outV w π, false⟩ :: (rwT C ++ tl)
@[simp] theorem outV_len (w : Nat) (π : List Nat) : (outV w π).length = π.length := by simp [outV]
@[simp] theorem rwT_len (C : List (List Rat)) : (rwT C).length = C.length := by simp [rwT]
theorem lget_outV {w i : Nat} {π : List Nat} (h : i < π.length) : lget (outV w π) i = .view (gt π i + 1) 0 w := by
  unfold outV; rw [lget_m _ h]; rfl
theorem lset_outV {w i e : Nat} {π : List Nat} : lset (outV w π) i (.view (e + 1) 0 w) = outV w (π.set i e) := by
  unfold outV; rw [lset_eq, List.map_set]; rfl
theorem usesL_outV {w k n : Nat} {π : List Nat} (h : ∀ i, i < π.length → gt π i < n) (hk : n < k) : SV.usesL k (outV w π) = false := by
  unfold outV
  rw [usesL_map, List.any_eq_false]
  intro x hx
  obtain ⟨i, hi, rfl⟩ := List.getElem_of_mem hx
  have := h i hi
  rw [gt_get hi]
  simp only [vw, uses_view, beq_iff_eq]
  omega
theorem nouse_rwT (k : Nat) (C : List (List Rat)) : nouse k (rwT C) = true := by
  simp [nouse, rwT]
theorem nouse_app2 (k : Nat) (A B : Tab) : nouse k (A ++ B) = (nouse k A && nouse k B) := by simp [nouse]
theorem tget_ap {A B : Tab} {i : Nat} (h : i < A.length) : tget (A ++ B) i = tget A i := by
  induction A generalizing i with
  | nil => simp at h
  | cons x A ih => cases i with
    | zero => rfl
    | succ i => simpa [tget] using ih (by simpa using h)
theorem tget_ap2 {A B : Tab} {i n : Nat} (h : A.length = n) : tget (A ++ B) (n + i) = tget B i := by
  subst h
  induction A with
  | nil => simp
  | cons x A ih => simp only [List.cons_append, List.length_cons, show A.length + 1 + i = A.length + i + 1 by omega, tget]; exact ih
theorem tset_ap2 {A B : Tab} {i n : Nat} {y : Option Ent} (h : A.length = n) : tset (A ++ B) (n + i) y = A ++ tset B i y := by
  subst h
  rw [tset_eq, tset_eq, List.set_append_right _ _ (by omega)]
  simp
theorem tget_rw {C : List (List Rat)} {tl : Tab} {e : Nat} (h : e < C.length) : tget (rwT C ++ tl) e = some ⟨4, (gt C e).map rsv, false⟩ := by
  rw [tget_ap (by simpa using h)]
  unfold rwT
  induction C generalizing e with
  | nil => simp at h
  | cons x C ih => cases e with
    | zero => rfl
    | succ e => simpa [tget, gt] using ih (by simpa using h)
theorem tset_rw {C : List (List Rat)} {tl : Tab} {e : Nat} {r : List Rat} (h : e < C.length) : tset (rwT C ++ tl) e (some ⟨4, r.map rsv, false⟩) = rwT (C.set e r) ++ tl := by
  rw [tset_eq, List.set_append_left _ _ (by simpa using h)]
  unfold rwT
  rw [List.map_set]
theorem leM_ap (A : Tab) {B B' : Tab} (h : leM B B') : leM (A ++ B) (A ++ B') := by
  induction A with
  | nil => exact h
  | cons x A ih => simpa [leM] using ih
/-- the table's rows stand in such entries -/
structure Rep (n : Nat) (π : List Nat) (C : List (List Rat)) (f : Nat → List Rat) : Prop where
  lp : π.length = n
  lc : C.length = n
  b : ∀ i, i < n → gt π i < n
  inj : ∀ i j, i < n → j < n → gt π i = gt π j → i = j
  e : ∀ i, i < n → gt C (gt π i) = f i
theorem Rep.put {n k : Nat} {π : List Nat} {C : List (List Rat)} {f g : Nat → List Rat} {r : List Rat} (h : Rep n π C f) (hk : k < n) (g1 : g k = r) (g2 : ∀ i, i < n → i ≠ k → g i = f i) : Rep n π (C.set (gt π k) r) g where
  lp := h.lp
  lc := by simpa using h.lc
  b := h.b
  inj := h.inj
  e := fun i hi => by
    have hb := h.b i hi
    rw [gt_set (by rw [h.lc]; exact hb)]
    split
    · rename_i q; rw [← h.inj k i hk hi q, g1]
    · rename_i q; rw [g2 i hi (fun e => q (by rw [e])), h.e i hi]
theorem Rep.same {n : Nat} {π : List Nat} {C : List (List Rat)} {f g : Nat → List Rat} (h : Rep n π C f) (hg : ∀ i, i < n → g i = f i) : Rep n π C g :=
  ⟨h.lp, h.lc, h.b, h.inj, fun i hi => by rw [hg i hi]; exact h.e i hi⟩
theorem Rep.swap {n k t : Nat} {π : List Nat} {C m : List (List Rat)} (h : Rep n π C (gt m)) (hk : k < n) (ht : t < n) : Rep n ((π.set k (gt π t)).set t (gt π k)) C (swp m k t) := by
  have at' : ∀ i, i < n → gt ((π.set k (gt π t)).set t (gt π k)) i = gt π (if i = t then k else if i = k then t else i) := fun i hi => by
    rw [gt_set (by simpa [h.lp] using hi)]
    by_cases e1 : t = i
    · rw [if_pos e1, if_pos e1.symm]
    · rw [if_neg e1, if_neg (fun q => e1 q.symm), gt_set (by rw [h.lp]; exact hi)]
      by_cases e2 : k = i
      · rw [if_pos e2, if_pos e2.symm]
      · rw [if_neg e2, if_neg (fun q => e2 q.symm)]
  have bd : ∀ i, i < n → (if i = t then k else if i = k then t else i) < n := fun i hi => by
    split
    · exact hk
    · split
      · exact ht
      · exact hi
  refine ⟨by simpa using h.lp, h.lc, fun i hi => by rw [at' i hi]; exact h.b _ (bd i hi), fun i j hi hj q => ?_, fun i hi => ?_⟩
  · rw [at' i hi, at' j hj] at q
    have := h.inj _ _ (bd i hi) (bd j hj) q
    clear at' bd q
    split at this <;> split at this <;> (try split at this) <;> (try split at this) <;> omega
  · rw [at' i hi, h.e _ (bd i hi)]
    unfold swp
    by_cases e1 : i = k
    · rw [if_pos e1]
      by_cases e2 : i = t
      · subst e1; subst e2; simp
      · rw [if_neg e2, if_pos e1]
    · rw [if_neg e1]
      by_cases e2 : i = t
      · rw [if_pos e2, if_neg e1, if_pos e2]
      · rw [if_neg e2, if_neg e1, if_neg e2]
/-- the twin, its first i rows made -/
def outI (w n i : Nat) : List SV := (List.range n).map fun j => if j < i then vw w j else .ro []
@[simp] theorem outI_len (w n i : Nat) : (outI w n i).length = n := by simp [outI]
theorem outI_zero (w n : Nat) : outI w n 0 = List.replicate n (.ro []) := by simp [outI, List.map_const']
theorem outI_end (w n : Nat) : outI w n n = outV w (List.range n) := by
  unfold outI outV
  refine List.map_congr_left fun j hj => ?_
  rw [if_pos (by simpa using hj)]
theorem outI_set {w n i : Nat} (h : i < n) : lset (outI w n i) i (.view (i + 1) 0 w) = outI w n (i + 1) := by
  rw [lset_eq]
  unfold outI
  refine List.ext_getElem (by simp) fun j h1 h2 => ?_
  simp only [List.length_set, List.length_map, List.length_range] at h1
  rw [List.getElem_set]
  by_cases e : i = j
  · subst e; simp [vw]
  · rw [if_neg e]
    simp only [List.getElem_map, List.getElem_range]
    by_cases l : j < i
    · rw [if_pos l, if_pos (by omega)]
    · rw [if_neg l, if_neg (by omega)]
theorem lget_outI {w n i : Nat} (h : i < n) : lget (outI w n i) i = .ro [] := by
  rw [lget_eq (by simpa using h)]; simp [outI]
theorem usesL_outI {w n i k : Nat} (hk : i < k) : SV.usesL k (outI w n i) = false := by
  unfold outI
  rw [usesL_map, List.any_eq_false]
  intro j hj
  split
  · simp only [vw, uses_view, beq_iff_eq]; omega
  · simp
theorem nlL_many {n : Nat} {x : SV} : nlL (List.replicate n x) = List.replicate n (nlV x) := by
  induction n with
  | zero => rfl
  | succ n ih => simp [List.replicate_succ, ih]
theorem rwT_take {a : List (List Rat)} {i : Nat} (h : i < a.length) : rwT (a.take i) ++ [some ⟨4, (gt a i).map rsv, false⟩] = rwT (a.take (i + 1)) := by
  unfold rwT; rw [take_gt h]; simp
theorem Rep.init {n : Nat} {a : List (List Rat)} (h : a.length = n) : Rep n (List.range n) a (gt a) where
  lp := by simp
  lc := h
  b := fun i hi => by simp [gt, hi]
  inj := fun i j hi hj q => by simpa [gt, hi, hj] using q
  e := fun i hi => by congr 1; simp [gt, hi]
theorem ltL_outV {w k n : Nat} {π : List Nat} (h : ∀ i, i < π.length → gt π i < n) (hk : n < k) : SV.ltL k (outV w π) = true := by
  unfold outV
  rw [ltL_map, List.all_eq_true]
  intro x hx
  obtain ⟨i, hi, rfl⟩ := List.getElem_of_mem hx
  have := h i hi
  rw [gt_get hi]
  simp [vw]; omega
theorem ltM_rwT (k : Nat) (C : List (List Rat)) : ltM k (rwT C) := by
  unfold rwT
  induction C with
  | nil => trivial
  | cons x C ih => exact ⟨by simp, ih⟩
theorem ltM_ap {k : Nat} {A B : Tab} (h : ltM k A) (h' : ltM k B) : ltM k (A ++ B) := by
  induction A with
  | nil => exact h'
  | cons x A ih => cases x with
    | none => exact ih h
    | some e => exact ⟨h.1, ih h.2⟩
/-- the first j elements of a row divided -/
def divP (r : List Rat) (c j : Nat) : List Rat := (List.range r.length).map fun x => if x < j then gt r x / gt r c else gt r x
@[simp] theorem divP_len (r : List Rat) (c j : Nat) : (divP r c j).length = r.length := by simp [divP]
theorem gt_divP {r : List Rat} {c j x : Nat} (h : x < r.length) : gt (divP r c j) x = if x < j then gt r x / gt r c else gt r x := by unfold divP; rw [gt_range _ h]
theorem divP_zero (r : List Rat) (c : Nat) : divP r c 0 = r := ext_gt' (by simp) fun j h => by rw [gt_divP (by simpa using h)]; simp
theorem divP_end (r : List Rat) (c : Nat) : divP r c r.length = oneR r c := ext_gt' (by simp) fun j h => by
  have h : j < r.length := by simpa using h
  rw [gt_divP h, gt_oneR h, if_pos h]
theorem divP_set {r : List Rat} {c i : Nat} (h : i < r.length) : (divP r c i).set i (gt r i / gt r c) = divP r c (i + 1) := ext_gt' (by simp) fun j hj => by
  have hj : j < r.length := by simpa using hj
  rw [gt_set (by simpa using hj), gt_divP hj, gt_divP hj]
  by_cases e : i = j
  · subst e; simp
  · rw [if_neg e]
    by_cases l : j < i
    · rw [if_pos l, if_pos (by omega)]
    · rw [if_neg l, if_neg (by omega)]
theorem tgA {n : Nat} {R : List (List Rat)} {tl : Tab} (h : R.length = n) : tget (rwT R ++ tl) n = tget tl 0 := tget_ap2 (i := 0) (by simpa using h)
theorem tgB {n : Nat} {R : List (List Rat)} {tl : Tab} (h : R.length = n) : tget (rwT R ++ tl) (n + 1) = tget tl 1 := tget_ap2 (i := 1) (by simpa using h)
theorem tsA {n : Nat} {R : List (List Rat)} {tl : Tab} {y : Option Ent} (h : R.length = n) : tset (rwT R ++ tl) n y = rwT R ++ tset tl 0 y := tset_ap2 (i := 0) (by simpa using h)
theorem tsB {n : Nat} {R : List (List Rat)} {tl : Tab} {y : Option Ent} (h : R.length = n) : tset (rwT R ++ tl) (n + 1) y = rwT R ++ tset tl 1 y := tset_ap2 (i := 1) (by simpa using h)
/-- the first x rows done -/
def subsF (m : List (List Rat)) (k t c x y : Nat) : List Rat := if y = k then oneR (gt m t) c else if y < x then subR (swp m k t y) (oneR (gt m t) c) (gt (swp m k t y) c) else swp m k t y
theorem tgC {n : Nat} {R : List (List Rat)} {tl : Tab} (h : R.length = n) : tget (rwT R ++ tl) (n + 2) = tget tl 2 := tget_ap2 (i := 2) (by simpa using h)
theorem renL_r (σ : Nat → Nat) (l : List Rat) : renL σ (l.map rsv) = l.map rsv := renL_pure σ _ (by simp)
/-! the end: all rows are frozen -/
theorem leM_idx : ∀ {M M' : Tab}, M'.length ≤ M.length → (∀ k, k < M'.length → M'[k]? = some none ∨ M[k]? = M'[k]?) → leM M M'
  | M, [], _, _ => by cases M <;> trivial
  | [], y :: M', h, _ => by simp at h
  | x :: M, y :: M', h, g => by
    refine ⟨?_, leM_idx (by simpa using h) fun k hk => by simpa using g (k + 1) (by simpa using hk)⟩
    simpa using g 0 (by simp)
def outF (w : Nat) (R : List (List Rat)) (j : Nat) (π : List Nat) : List SV := π.map fun e => if e < j then .ro ((gt R e).map rsv) else vw w e
def rwN (R : List (List Rat)) (j : Nat) : Tab := (List.range R.length).map fun e => if e < j then none else some ⟨4, (gt R e).map rsv, false⟩
theorem outF_zero (w : Nat) (R : List (List Rat)) (π : List Nat) : outF w R 0 π = outV w π := by simp [outF, outV]
theorem rwN_zero (R : List (List Rat)) : rwN R 0 = rwT R := by
  unfold rwN rwT
  refine List.ext_getElem (by simp) fun j h1 h2 => ?_
  simp at h1
  simp [gt_get h1]
theorem sbL_map {k : Nat} {es : List SV} {α : Type} (f : α → SV) (l : List α) : sbL k es (l.map f) = l.map fun x => sbV k es (f x) := by
  induction l with
  | nil => rfl
  | cons x l ih => simp [ih]
theorem outF_next {w j : Nat} {R : List (List Rat)} {π : List Nat} (h : ∀ e ∈ π, (gt R e).length = w) : sbL (j + 1) ((gt R j).map rsv) (outF w R j π) = outF w R (j + 1) π := by
  unfold outF
  rw [sbL_map]
  refine List.map_congr_left fun e he => ?_
  have hw := h e he
  by_cases e1 : e < j
  · rw [if_pos e1, if_pos (by omega)]; simp
  · rw [if_neg e1]
    unfold vw
    by_cases e2 : e = j
    · subst e2
      rw [if_pos (by omega)]
      simp [hw, List.take_of_length_le]
    · rw [if_neg (by omega)]
      simp [e2]
theorem tget_of : ∀ {M : Tab} {k : Nat} {x : Option Ent}, M[k]? = some x → tget M k = x
  | [], k, x, h => by simp at h
  | y :: M, 0, x, h => by simpa [tget] using h
  | y :: M, k + 1, x, h => by simpa [tget] using tget_of (M := M) (k := k) (by simpa using h)
theorem rwN_at {R : List (List Rat)} {j k : Nat} (h : k < R.length) : (rwN R j)[k]? = some (if k < j then none else some ⟨4, (gt R k).map rsv, false⟩) := by
  simp [rwN, h]
@[simp] theorem rwN_len (R : List (List Rat)) (j : Nat) : (rwN R j).length = R.length := by simp [rwN]
theorem frz_row {C : Ctx} {N w n j : Nat} {R : List (List Rat)} {π : List Nat} {fr : List (Nat × SV)} (hR : R.length = n) (hj : j < n) (h : ∀ e ∈ π, (gt R e).length = w) (hf : sbF (j + 1) ((gt R j).map rsv) fr = fr) (hF : leF fr fr) :
    Le C ⟨N, fr, some ⟨1, outF w R j π, false⟩ :: rwN R j⟩ ⟨N, fr, some ⟨1, outF w R (j + 1) π, false⟩ :: rwN R (j + 1)⟩ := by
  have hk : tget (some ⟨1, outF w R j π, false⟩ :: rwN R j) (j + 1) = some ⟨4, (gt R j).map rsv, false⟩ := by
    show tget (rwN R j) j = _
    refine tget_of ?_
    rw [rwN_at (by omega), if_neg (by omega)]
  refine (Le.frz (j + 1) hk (by simp)).trans (Le.syn ?_)
  unfold frzS
  simp only [hk]
  rw [hf]
  refine ⟨rfl, hF, ?_, .inl ?_⟩
  · simp only [tset]
    rw [sbM_some, outF_next h]
    refine ⟨.inr rfl, leM_idx ?_ fun k hk => ?_⟩
    · rw [tset_eq]; simp [sbM]
    · have hk : k < R.length := by simpa using hk
      rw [rwN_at hk]
      by_cases e1 : k < j + 1
      · rw [if_pos e1]; exact .inl rfl
      · rw [if_neg e1]
        right
        rw [tset_eq, sbM, List.getElem?_map, List.getElem?_set_ne (by omega), rwN_at hk, if_neg (by omega)]
        simp [sbL_map, sbV_rsv]
  · simp [sbM, tset_eq, tset]
theorem frz_rows {C : Ctx} {N w n : Nat} {R : List (List Rat)} {π : List Nat} {fr : List (Nat × SV)} (hR : R.length = n) (h : ∀ e ∈ π, (gt R e).length = w) (hf : ∀ j es, sbF (j + 1) es fr = fr) (hF : leF fr fr) :
    ∀ j, j ≤ n → Le C ⟨N, fr, some ⟨1, outV w π, false⟩ :: rwT R⟩ ⟨N, fr, some ⟨1, outF w R j π, false⟩ :: rwN R j⟩
  | 0, _ => by rw [outF_zero, rwN_zero]; exact Le.refl _ _
  | j + 1, hj => (frz_rows hR h hf hF j (by omega)).trans (frz_row hR (by omega) h (hf j _) hF)
theorem outF_end {w n : Nat} {R : List (List Rat)} {π : List Nat} {m : List (List Rat)} (hr : Rep n π R (gt m)) (hm : m.length = n) : outF w R n π = m.map rlv := by
  refine List.ext_getElem (by simp [outF, hr.lp, hm]) fun i h1 h2 => ?_
  have hi : i < n := by simpa [outF, hr.lp] using h1
  simp only [outF, List.getElem_map]
  rw [gt_get (by rw [hr.lp]; exact hi), gt_get (by omega), if_pos (hr.b i hi), hr.e i hi]; rfl
/-- the table that the function hands over -/
theorem frz_all {C : Ctx} {N w n l : Nat} {R : List (List Rat)} {π : List Nat} {m : List (List Rat)} {f : List Nat} (hC : C.fx = []) (hr : Rep n π R (gt m)) (hm : m.length = n) (hw : ∀ i, i < n → (gt m i).length = w) (hl : f.length = l) {fr : List (Nat × SV)}
    (hfr : leF fr [(2, .view 0 0 n), (3, .view (n + 1) 0 l), (4, .val .nilIface)]) :
    ∃ M', Le C ⟨N, fr, mxT w π R [some ⟨1, f.map natV, false⟩]⟩ ⟨N, [(2, .ro (m.map rlv)), (3, .ro (f.map natV)), (4, .val .nilIface)], M'⟩ := by
  have lp := hr.lp
  have lc := hr.lc
  have pf : SV.pureL (f.map natV) = true := by simp
  have sf : sbL (n + 1) (f.map natV) (f.map natV) = f.map natV := sbL_pure _ _ _ pf
  have hk : tget (mxT w π R [some ⟨1, f.map natV, false⟩]) (n + 1) = some ⟨1, f.map natV, false⟩ := by
    have := tget_ap2 (A := rwT R) (B := [some ⟨1, f.map natV, false⟩]) (i := 0) (n := n) (by simpa using lc)
    simpa [mxT, tget] using this
  have wr : ∀ e ∈ π, (gt R e).length = w := fun e he => by
    obtain ⟨i, hi, rfl⟩ := List.getElem_of_mem he
    rw [gt_get hi, hr.e i (by omega)]; exact hw i (by omega)
  have s1 : Le C ⟨N, fr, mxT w π R [some ⟨1, f.map natV, false⟩]⟩ ⟨N, [(2, .view 0 0 n), (3, .view (n + 1) 0 l), (4, .val .nilIface)], mxT w π R [some ⟨1, f.map natV, false⟩]⟩ :=
    Le.syn ⟨rfl, hfr, leM_self _, .inl rfl⟩
  have s2 := Le.frz (C := C) (st := ⟨N, [(2, .view 0 0 n), (3, .view (n + 1) 0 l), (4, .val .nilIface)], mxT w π R [some ⟨1, f.map natV, false⟩]⟩) (n + 1) hk pf
  have so : sbL (n + 1) (f.map natV) (outV w π) = outV w π := by
    unfold outV
    rw [sbL_map]
    refine List.map_congr_left fun e he => ?_
    obtain ⟨i, hi, rfl⟩ := List.getElem_of_mem he
    have := hr.b i (by omega)
    rw [gt_get hi]
    simp [vw]; omega
  have tk : (f.map natV).take l = f.map natV := List.take_of_length_le (by simp; omega)
  have s3 : Le C (frzS (n + 1) ⟨N, [(2, .view 0 0 n), (3, .view (n + 1) 0 l), (4, .val .nilIface)], mxT w π R [some ⟨1, f.map natV, false⟩]⟩) ⟨N, [(2, .view 0 0 n), (3, .ro (f.map natV)), (4, .val .nilIface)], some ⟨1, outV w π, false⟩ :: rwT R⟩ := by
    refine Le.syn ?_
    unfold frzS
    simp only [hk]
    refine ⟨rfl, ?_, ?_, .inr ⟨?_, ?_, ?_⟩⟩
    · simp [leF, Go.Sv.get, hl, tk]
    · simp only [mxT, tset]
      rw [sbM_some, so]
      refine ⟨.inr rfl, leM_idx (by simp [sbM, tset_eq]) fun k hk => .inr ?_⟩
      have hk : k < R.length := by simpa using hk
      rw [tset_eq, sbM, List.getElem?_map, List.getElem?_set_ne (by omega), List.getElem?_append_left (by simpa using hk)]
      simp [rwT, hk, sbL_map, sbV_rsv]
    · simp [ltF]
    · exact ⟨ltL_outV (fun i hi => hr.b i (by omega)) (by simp; omega), ltM_rwT _ _⟩
    · simp [hC]
  have s4 := frz_rows (C := C) (N := N) (w := w) (π := π) (fr := [(2, .view 0 0 n), (3, .ro (f.map natV)), (4, .val .nilIface)]) lc wr (fun j es => by simp) (by simp [leF, Go.Sv.get]) n (Nat.le_refl _)
  rw [outF_end hr hm] at s4
  have s5 := Le.frz (C := C) (st := ⟨N, [(2, .view 0 0 n), (3, .ro (f.map natV)), (4, .val .nilIface)], some ⟨1, m.map rlv, false⟩ :: rwN R n⟩) 0 rfl (by simp)
  have tk2 : (m.map rlv).take n = m.map rlv := List.take_of_length_le (by simp; omega)
  have e5 : (frzS 0 ⟨N, [(2, .view 0 0 n), (3, .ro (f.map natV)), (4, .val .nilIface)], some ⟨1, m.map rlv, false⟩ :: rwN R n⟩).fr = [(2, .ro (m.map rlv)), (3, .ro (f.map natV)), (4, .val .nilIface)] := by
    simp [frzS, tget, hm, tk2]
  refine ⟨(frzS 0 ⟨N, [(2, .view 0 0 n), (3, .ro (f.map natV)), (4, .val .nilIface)], some ⟨1, m.map rlv, false⟩ :: rwN R n⟩).M, s1.trans (s2.trans (s3.trans (s4.trans (s5.trans ?_))))⟩
  rw [← e5]
  exact Le.refl _ _
end Go.Mx
namespace Go.Proofs
open Go.Sv Go Go.Tb Go.Pl Go.Ut Go.Mx
set_option maxRecDepth 10000 in
theorem qReduced_ok (a : List (List Rat)) (n w : Nat) (h : Tw n w 2200 a) (hn : n ≤ 6) (hw : w ≤ 40) (he : widthQ a = .tup [.val (.int .i64 w), .val (.bool true)]) :
    PureF Tryz.prog 14 [.ro (a.map rlv)] (.tup [.ro ((redAt a w).1.map rlv), .ro ((redAt a w).2.map natV), .val .nilIface]) := by
  have hl := h.l
  have gw := width_ok a (by omega) (fun r hr => by
    obtain ⟨i, hi, rfl⟩ := List.getElem_of_mem hr
    rw [gt_get hi, h.r i (by omega)]; omega)
  rw [he] at gw
  refine pure_enterW Tryz.func14 rfl (by simp) (fun C hC => ?_)
  simp
  refine callS (gw) (by simp) ?_
  simp
  refine call_here Tryz.func67 rfl (by simp) [] (by simp) (by simp) (fun C' hC' => ?_)
  simp (disch := omega) [hl]
  repeat (refine And.intro (by omega) ?_)
  refine CodeJ.le (Le.nl _) ?_
  simp [nlS, hl]
  rw [nlL_many]
  refine CodeJ.loopL (ι := Nat) (fun i => ⟨23, [(0, .ro (a.map rlv)), (3, .view 0 0 n), (9, iv n), (10, iv i)], some ⟨1, outI w n i, false⟩ :: rwT (a.take i)⟩)
    (fun i => i ≤ n) (fun i => n - i) 0 (by simp) ?_ ?_
  · simp [leS, hC', rwT, outI_zero]
    done
  · rintro i hi
    by_cases hin : i < n
    · have li := lget_rlv (l := a) (i := i) (by omega)
      have wi := h.r i hin
      have um := usesL_outI (w := w) (n := n) (i := i) (k := i + 1) (by omega)
      have mi : min i n = i := by omega
      have os := outI_set (w := w) hin
      have lo := lget_outI (w := w) hin
      have rt := rwT_take (a := a) (i := i) (by omega)
      simp (disch := omega) [hin, li, wi, um, nouse_rwT, hl, mi, lo, os, rt]
      repeat (refine And.intro (by omega) ?_)
      exact ⟨i + 1, by omega, by omega, Le.syn (by simp (disch := omega) [leS, hC, w64])⟩
    · obtain rfl : i = n := by omega
      rw [outI_end, List.take_of_length_le (by omega)]
      simp
      refine CodeJ.nil 8 1 rfl ?_
      simp [hl]
      refine CodeJ.loopL (ι := Nat × List Nat × List (List Rat)) (fun ⟨c, π, R⟩ => ⟨140, [(5, iv w), (7, .view 0 0 i), (8, .view (i + 1) 0 (redAt a c).2.length), (9, iv c)], mxT w π R [some ⟨1, (redAt a c).2.map natV, false⟩]⟩)
        (fun ⟨c, π, R⟩ => c ≤ w ∧ Rep i π R (gt (redAt a c).1)) (fun ⟨c, π, R⟩ => w - c) (0, List.range i, a) ⟨by omega, Rep.init hl⟩ ?_ ?_
      · simp [leS, hC, redAt, mxT]
        trace_state
        done
      · rintro ⟨c, π, R⟩ ⟨hc, hr⟩
        clear hi hin
        dsimp only
        obtain ⟨tw, le⟩ := redAt_ok h c hc
        have nx : redAt a (c + 1) = redS (redAt a c) c := rfl
        have full := redAt_full (a := a) (c := c)
        generalize hs : redAt a c = s at *
        have sl := tw.l
        have tk : (s.2.map natV).take s.2.length = s.2.map natV := List.take_of_length_le (by simp)
        have p5 := pow5_le le hn
        have p1 : 1 ≤ 2200 * 5 ^ s.2.length := by have := Nat.pow_pos (n := s.2.length) (show 0 < 5 by omega); omega
        have lp := hr.lp
        have lc := hr.lc
        by_cases hcw : c < w
        · by_cases hf : s.2.length < i
          · simp only [mxT]
            simp (disch := omega) [hcw, hf, sl]
            repeat (refine And.intro (by omega) ?_)
            refine CodeJ.loopL (ι := Nat) (fun t => ⟨140, [(5, iv w), (7, .view 0 0 i), (8, .view (i + 1) 0 s.2.length), (9, iv c), (10, iv s.2.length), (11, iv t)], mxT w π R [some ⟨1, s.2.map natV, false⟩]⟩)
              (fun t => s.2.length ≤ t ∧ t ≤ i ∧ ∀ x, s.2.length ≤ x → x < t → gt (gt s.1 x) c = 0) (fun t => i - t) s.2.length ⟨by omega, by omega, fun x h1 h2 => by omega⟩ ?_ ?_
            · simp [leS, hC, mxT]
            · rintro t ⟨t1, t2, t3⟩
              simp only [mxT]
              by_cases hti : t < i
              · have lo := lget_outV (w := w) (π := π) (i := t) (by omega)
                have lb := hr.b t hti
                have re := hr.e t hti
                have tg := tget_rw (C := R) (tl := [some ⟨1, s.2.map natV, false⟩]) (e := gt π t) (by omega)
                rw [re] at tg
                have wt := tw.r t hti
                have lr := lget_r (l := gt s.1 t) (i := c) (by omega)
                simp (disch := omega) [hti, lp, lo, tg, wt, lr]
                repeat (refine And.intro (by omega) ?_)
                refine callS (qSign_ok (gt (gt s.1 t) c)) (by simp) ?_
                simp (disch := omega) [w64, Int.sign_eq_zero_iff_zero, Rat.num_eq_zero]
                repeat (refine And.intro (by omega) ?_)
                have ti : ¬ (t : Int) = i := by omega
                refine ⟨fun z => ⟨t + 1, ⟨by omega, by omega, fun x g1 g2 => ?_⟩, by omega, Le.syn (by simp (disch := omega) [leS, hC, w64])⟩, fun z => ⟨fun q => absurd q ti, fun _ => ?_⟩⟩
                · by_cases xt : x = t
                  · rw [xt]; exact z
                  · exact t3 x g1 (by omega)
                · refine CodeJ.draw (.qs [0, 1, 2, 3, 4, 5, 6, 7, 8, 9, 10, 11, 12] <| .l 13 [0] <| .qs [14] <| .l 15 [0] <| .nil) (by kernel_rfl) (by kernel_rfl) (by simp) ?_
                  have lok := lget_outV (w := w) (π := π) (i := s.2.length) (by omega)
                  have hr2 := hr.swap hf hti
                  have l1 := lget_outV (w := w) (π := π.set s.2.length (gt π t)) (i := t) (by simp; omega)
                  have l2 := lget_outV (w := w) (π := (π.set s.2.length (gt π t)).set t (gt π s.2.length)) (i := s.2.length) (by simp; omega)
                  have lb2 := hr2.b s.2.length hf
                  have re2 := hr2.e s.2.length hf
                  have lp2 := hr2.lp
                  have sk : swp s.1 s.2.length t s.2.length = gt s.1 t := by unfold swp; rw [if_pos rfl]
                  rw [sk] at re2
                  have tg2 := fun tl : Tab => tget_rw (C := R) (tl := tl) (e := gt ((π.set s.2.length (gt π t)).set t (gt π s.2.length)) s.2.length) (by omega)
                  rw [re2] at tg2
                  simp (disch := omega) [lp, lo, lok, hti, l1, l2, lset_outV, tg2, lr, wt, lc, tgB, tsB]
                  repeat (refine And.intro (by omega) ?_)
                  generalize hπ : (π.set s.2.length (gt π t)).set t (gt π s.2.length) = π2 at *
                  refine CodeJ.loopL (ι := Nat × List (List Rat)) (fun ⟨j, R⟩ => ⟨140, [(5, iv w), (7, .view 0 0 i), (8, .view (i + 1) 0 s.2.length), (9, iv c), (10, iv s.2.length), (12, .ptr (i + 1 + 1) 0 0), (86, iv w), (87, iv j)], mxT w π2 R [some ⟨1, s.2.map natV, false⟩, some ⟨4, [rsv (gt (gt s.1 t) c)], false⟩]⟩)
                    (fun ⟨j, R⟩ => j ≤ w ∧ Rep i π2 R (fun x => if x = s.2.length then divP (gt s.1 t) c j else swp s.1 s.2.length t x)) (fun ⟨j, R⟩ => w - j) (0, R) ⟨by omega, hr2.same fun x _ => by split; rename_i e; rw [e, sk, divP_zero]; rfl⟩ ?_ ?_
                  · simp [leS, hC, mxT]
                  · clear re tg re2 tg2 lc hr hr2
                    rintro ⟨j, R⟩ ⟨hj, hr⟩
                    have lc := hr.lc
                    have re := hr.e s.2.length hf
                    simp only [if_true] at re
                    have tg := fun tl : Tab => tget_rw (C := R) (tl := tl) (e := gt π2 s.2.length) (by omega)
                    rw [re] at tg
                    simp only [mxT]
                    by_cases hjw : j < w
                    · have lj := lget_r (l := divP (gt s.1 t) c j) (i := j) (by simp; omega)
                      rw [gt_divP (by omega), if_neg (by omega)] at lj
                      simp (disch := omega) [hjw, lc, lp2]
                      repeat (refine And.intro (by omega) ?_)
                      refine CodeJ.draw (.qs [0, 1, 2, 3, 4, 5, 6, 7, 8, 9, 10, 11, 12] <| .l 13 [] <| .qs [14, 15, 16, 17] <| .l 18 [gt π2 s.2.length + 1] <| .nil) (by kernel_rfl) (by kernel_rfl) (by simp) ?_
                      simp (disch := omega) [hjw, lc, lp2, l2, tg, tgB, lj, wt]
                      repeat (refine And.intro (by omega) ?_)
                      refine callS (qQuo_ok _ _ (qok_of (tw.q t j hti hjw) (by omega)) (qok_of (tw.q t c hti hcw) (by omega))) (by simp) ?_
                      simp (disch := omega) [hjw, lc, lp2, l2, tg, tgB, lj, wt, w64]
                      repeat (refine And.intro (by omega) ?_)
                      have ts : tset (rwT R ++ [some ⟨1, s.2.map natV, false⟩, some ⟨4, [rsv (gt (gt s.1 t) c)], false⟩]) (gt π2 s.2.length) (some ⟨4, lset ((divP (gt s.1 t) c j).map rsv) j (rsv (gt (gt s.1 t) j / gt (gt s.1 t) c)), false⟩) = rwT (R.set (gt π2 s.2.length) (divP (gt s.1 t) c (j + 1))) ++ [some ⟨1, s.2.map natV, false⟩, some ⟨4, [rsv (gt (gt s.1 t) c)], false⟩] := by
                        rw [← divP_set (by omega), ← tset_rw (by omega), lset_eq, List.map_set]
                      refine ⟨j + 1, R.set (gt π2 s.2.length) (divP (gt s.1 t) c (j + 1)), ⟨by omega, hr.put hf (by simp) (fun x _ g => by simp [g])⟩, by omega, ?_⟩
                      rw [ts]
                      exact Le.syn (by simp (disch := omega) [leS, hC, w64])
                    · obtain rfl : j = w := by omega
                      simp (disch := omega) [hjw, lp2]
                      repeat (refine And.intro (by omega) ?_)
                      rw [show divP (gt s.1 t) c j = oneR (gt s.1 t) c by rw [← wt, divP_end]] at re
                      refine CodeJ.loopL (ι := Nat × List (List Rat)) (fun ⟨x, R⟩ => ⟨140, [(5, iv j), (7, .view 0 0 i), (8, .view (i + 1) 0 s.2.length), (9, iv c), (10, iv s.2.length), (110, iv i), (111, iv x)], mxT j π2 R [some ⟨1, s.2.map natV, false⟩, some ⟨4, [rsv (gt (gt s.1 t) c)], false⟩]⟩)
                        (fun ⟨x, R⟩ => x ≤ i ∧ Rep i π2 R (subsF s.1 s.2.length t c x)) (fun ⟨x, R⟩ => i - x) (0, R) ⟨by omega, hr.same fun x _ => ?_⟩ ?_ ?_
                      · unfold subsF
                        split
                        · rw [← wt, divP_end]
                        · simp
                      · simp [leS, hC, mxT, w64]
                      · clear re tg lc hr
                        rintro ⟨x, R⟩ ⟨hx, hr⟩
                        have lc := hr.lc
                        have sw := fun x hx => swp_w tw (k := s.2.length) (t := t) (i := x) hf hti hx
                        have ow := one_w tw hti hcw p1
                        simp only [mxT]
                        by_cases hxi : x < i
                        · have re := hr.e x hxi
                          have tg := fun tl : Tab => tget_rw (C := R) (tl := tl) (e := gt π2 x) (by have := hr.b x hxi; omega)
                          rw [re] at tg
                          have rek := hr.e s.2.length hf
                          have tgk := fun tl : Tab => tget_rw (C := R) (tl := tl) (e := gt π2 s.2.length) (by omega)
                          rw [rek] at tgk
                          have lx := lget_outV (w := j) (π := π2) (i := x) (by omega)
                          by_cases xk : x = s.2.length
                          · subst xk
                            simp (disch := omega) [hxi, lc, lp2]
                            repeat (refine And.intro (by omega) ?_)
                            refine ⟨s.2.length + 1, R, ⟨by omega, hr.same fun y _ => ?_⟩, by omega, Le.syn (by simp (disch := omega) [leS, hC, w64])⟩
                            unfold subsF
                            by_cases yk : y = s.2.length
                            · rw [if_pos yk, if_pos yk]
                            · rw [if_neg yk, if_neg yk]
                              by_cases yx : y < s.2.length
                              · rw [if_pos yx, if_pos (by omega)]
                              · rw [if_neg yx, if_neg (by omega)]
                          · have xk' : ¬ (x : Int) = s.2.length := by omega
                            have e1 : subsF s.1 s.2.length t c x x = swp s.1 s.2.length t x := by unfold subsF; rw [if_neg xk, if_neg (by omega)]
                            have e2 : subsF s.1 s.2.length t c x s.2.length = oneR (gt s.1 t) c := by unfold subsF; rw [if_pos rfl]
                            rw [e1] at tg
                            rw [e2] at tgk
                            have sx := sw x hxi
                            have lr2 := lget_r (l := swp s.1 s.2.length t x) (i := c) (by omega)
                            have gT := qTake_ok (swp s.1 s.2.length t x) (oneR (gt s.1 t) c) (gt (swp s.1 s.2.length t x) c) (by omega) (by omega) (fun y hy => qok_of (sx.2 y (by omega)) (by omega)) (fun y hy => qok_of (ow.2 y (by omega)) (by omega)) (qok_of (sx.2 c hcw) (by omega))
                              (fun y hy => qok_of (qw_mul (ow.2 y (by omega)) (sx.2 c hcw) (by omega)) (by omega))
                            rw [sx.1] at gT
                            have lxb := hr.b x hxi
                            have pne : ¬ gt π2 x = gt π2 s.2.length := fun q => xk (hr.inj x _ hxi hf q)
                            simp (disch := omega) [hxi, lc, lp2, xk']
                            repeat (refine And.intro (by omega) ?_)
                            refine CodeJ.draw (.qs [0, 1, 2, 3, 4, 5, 6, 7, 8, 9, 10, 11, 12, 13, 14] <| .l 15 [gt π2 x + 1, gt π2 s.2.length + 1] <| .nil) (by kernel_rfl) (by kernel_rfl) (by simp) ?_
                            simp (disch := omega) [hxi, lc, lp2, lx, l2, tg, tgk, lr2, sx.1]
                            repeat (refine And.intro (by omega) ?_)
                            refine callT gT [gt π2 x + 1, gt π2 s.2.length + 1] (by simp [pne]) (by simp [tg, tgk]) (by simp) (by simp) (by simp [show ¬ gt π2 x = 999999 by omega, show ¬ gt π2 s.2.length = 999999 by omega]) ?_
                            rintro T y ⟨rfl, rfl⟩
                            have ts1 := fun tl : Tab => tset_rw (C := R) (tl := tl) (e := gt π2 x) (r := subR (swp s.1 s.2.length t x) (oneR (gt s.1 t) c) (gt (swp s.1 s.2.length t x) c)) (by omega)
                            have hr2 := hr.put (g := subsF s.1 s.2.length t c (x + 1)) (r := subR (swp s.1 s.2.length t x) (oneR (gt s.1 t) c) (gt (swp s.1 s.2.length t x) c)) hxi (by unfold subsF; rw [if_neg xk, if_pos (by omega)]) (fun y _ yx => by
                              unfold subsF
                              split
                              · rfl
                              · by_cases yl : y < x
                                · rw [if_pos yl, if_pos (by omega)]
                                · rw [if_neg yl, if_neg (by omega)])
                            have ts2 := fun tl : Tab => tset_rw (C := R.set (gt π2 x) (subR (swp s.1 s.2.length t x) (oneR (gt s.1 t) c) (gt (swp s.1 s.2.length t x) c))) (tl := tl) (e := gt π2 s.2.length) (r := oneR (gt s.1 t) c) (by simp; omega)
                            have e3 : (R.set (gt π2 x) (subR (swp s.1 s.2.length t x) (oneR (gt s.1 t) c) (gt (swp s.1 s.2.length t x) c))).set (gt π2 s.2.length) (oneR (gt s.1 t) c) = R.set (gt π2 x) (subR (swp s.1 s.2.length t x) (oneR (gt s.1 t) c) (gt (swp s.1 s.2.length t x) c)) := by
                              have := hr2.e s.2.length hf
                              refine ext_gt' (by simp) fun y hy => ?_
                              rw [gt_set (by simpa using hy)]
                              split
                              · rename_i q; rw [← q, this]; unfold subsF; rw [if_pos rfl]
                              · rfl
                            rw [e3] at ts2
                            simp (disch := omega) [ts1, ts2, lc, w64, renL_r]
                            repeat (refine And.intro (by omega) ?_)
                            refine ⟨x + 1, _, ⟨by omega, hr2⟩, by omega, ?_⟩
                            exact Le.syn (by simp (disch := omega) [leS, hC, w64])
                        · obtain rfl : x = i := by omega
                          have un := usesL_outV (w := j) (π := π2) (n := x) (k := x + 1) (fun y hy => hr.b y (by omega)) (by omega)
                          simp (disch := omega) [hxi, lc, un, nouse_app2, nouse_rwT, tgA, tsA, tgB, tgC, w64]
                          repeat (refine And.intro (by omega) ?_)
                          rw [redS_piv (t := t) (by omega) ⟨t1, by omega, z, t3⟩] at nx
                          refine ⟨⟨by simp [hC], by omega⟩, c + 1, π2, R, ⟨by omega, hr.same fun y hy => ?_⟩, by omega, ?_⟩
                          · rw [nx, gt_redStep (by omega)]
                            unfold subsF
                            by_cases yk : y = s.2.length
                            · rw [if_pos yk, if_pos yk]
                            · rw [if_neg yk, if_neg yk, if_pos hy]
                          · rw [nx]
                            refine Le.syn ⟨rfl, by simp [leF, Go.Sv.get, w64], ⟨.inr rfl, leM_ap _ (by simp [leM])⟩, .inr ⟨?_, ⟨ltL_outV (n := x) (fun y hy => hr.b y (by omega)) (by simp; omega), ltM_ap (ltM_rwT _ _) (by simp [ltM])⟩, by simp [hC]⟩⟩
                            simp [ltF, lc]
              · obtain rfl : t = i := by omega
                simp (disch := omega) [hti, lp]
                repeat (refine And.intro (by omega) ?_)
                rw [redS_none (fun x g1 g2 => t3 x g1 (by omega))] at nx
                refine ⟨c + 1, π, R, ⟨by omega, by rw [nx]; exact hr⟩, by omega, ?_⟩
                rw [nx]
                exact Le.syn (by simp (disch := omega) [leS, hC, w64])
          · have e := full (by omega) (w - c)
            rw [show c + (w - c) = w by omega] at e
            rw [e]
            simp only [mxT]
            simp (disch := omega) [hcw, hf, sl, tk]
            repeat (refine And.intro (by omega) ?_)
            obtain ⟨M', hM⟩ := frz_all (N := 140) (w := w) (l := s.2.length) (f := s.2) (fr := [(2, .view 0 0 i), (3, .view (i + 1) 0 s.2.length), (4, .val .nilIface)]) hC hr sl (fun i hi => tw.r i hi) rfl (by simp [leF, Go.Sv.get])
            refine ⟨_, Le.trans (Le.syn ?_) hM, ?_⟩
            · simp [leS, mxT]
            · simp
        · obtain rfl : c = w := by omega
          rw [hs]
          simp only [mxT]
          simp [tk]
          obtain ⟨M', hM⟩ := frz_all (N := 140) (w := c) (l := s.2.length) (f := s.2) (fr := [(2, .view 0 0 i), (3, .view (i + 1) 0 s.2.length), (4, .val .nilIface)]) hC hr sl (fun i hi => tw.r i hi) rfl (by simp [leF, Go.Sv.get])
          refine ⟨_, Le.trans (Le.syn ?_) hM, ?_⟩
          · simp [leS, mxT]
          · simp
end Go.Proofs

