/- A table whose rows are written in place, in any order; what matrix.Reduced returns. What the law MatrixReduced returns. A text of the prover's own. -/
import Derived.Test.YtnimjdcaajmfcaaGreatDoorPMv
import Derived.Test.YtnimjdcaajmfcaaGreatDoorPMt
namespace Go.Mx
open Go Go.Sv Go.Pl Go.Proofs Go.Tb Go.Ut
def vw (w i : Nat) : SV := .view (i + 1) 0 w
def outV (w : Nat) (π : List Nat) : List SV := π.map (vw w)
def rwT (C : List (List Rat)) : Tab := C.map fun r => some ⟨4, r.map rsv, false⟩
def mxT (w : Nat) (π : List Nat) (C : List (List Rat)) (tl : Tab) : Tab := some ⟨1, outV w π, false⟩ :: (rwT C ++ tl)
@[simp] theorem outV_len (w : Nat) (π : List Nat) : (outV w π).length = π.length := by simp [outV]
@[simp] theorem rwT_len (C : List (List Rat)) : (rwT C).length = C.length := by simp [rwT]
theorem lget_outV {w i : Nat} {π : List Nat} (h : i < π.length) : lget (outV w π) i = .view (gt π i + 1) 0 w := by
  unfold outV; rw [lget_m _ h]; rfl
theorem lset_outV {w i e : Nat} {π : List Nat} : lset (outV w π) i (.view (e + 1) 0 w) = outV w (π.set i e) := by
  unfold outV; rw [lset_eq, List.map_set]; rfl
theorem usesL_outV {w k n : Nat} {π : List Nat} (h : ∀ i, i < π.length → gt π i < n) (hk : n < k) : SV.usesL k (outV w π) = false := by
  unfold outV
  rw [usesL_map, List.any_eq_false]
  intro x hx
  obtain ⟨i, hi, rfl⟩ := List.getElem_of_mem hx
  have := h i hi
  rw [gt_get hi]
  simp only [vw, uses_view, beq_iff_eq]
  omega
theorem nouse_rwT (k : Nat) (C : List (List Rat)) : nouse k (rwT C) = true := by
  simp [nouse, rwT]
theorem nouse_app2 (k : Nat) (A B : Tab) : nouse k (A ++ B) = (nouse k A && nouse k B) := by simp [nouse]
theorem tget_ap {A B : Tab} {i : Nat} (h : i < A.length) : tget (A ++ B) i = tget A i := by
  induction A generalizing i with
  | nil => simp at h
  | cons x A ih => cases i with
    | zero => rfl
    | succ i => simpa [tget] using ih (by simpa using h)
theorem tget_ap2 {A B : Tab} {i n : Nat} (h : A.length = n) : tget (A ++ B) (n + i) = tget B i := by
  subst h
  induction A with
  | nil => simp
  | cons x A ih => simp only [List.cons_append, List.length_cons, show A.length + 1 + i = A.length + i + 1 by omega, tget]; exact ih
theorem tset_ap2 {A B : Tab} {i n : Nat} {y : Option Ent} (h : A.length = n) : tset (A ++ B) (n + i) y = A ++ tset B i y := by
  subst h
  rw [tset_eq, tset_eq, List.set_append_right _ _ (by omega)]
  simp
theorem tget_rw {C : List (List Rat)} {tl : Tab} {e : Nat} (h : e < C.length) : tget (rwT C ++ tl) e = some ⟨4, (gt C e).map rsv, false⟩ := by
  rw [tget_ap (by simpa using h)]
  unfold rwT
  induction C generalizing e with
  | nil => simp at h
  | cons x C ih => cases e with
    | zero => rfl
    | succ e => simpa [tget, gt] using ih (by simpa using h)
theorem tset_rw {C : List (List Rat)} {tl : Tab} {e : Nat} {r : List Rat} (h : e < C.length) : tset (rwT C ++ tl) e (some ⟨4, r.map rsv, false⟩) = rwT (C.set e r) ++ tl := by
  rw [tset_eq, List.set_append_left _ _ (by simpa using h)]
  unfold rwT
  rw [List.map_set]
theorem leM_ap (A : Tab) {B B' : Tab} (h : leM B B') : leM (A ++ B) (A ++ B') := by
  induction A with
  | nil => exact h
  | cons x A ih => simpa [leM] using ih
/-- the table's rows stand in such entries -/
structure Rep (n : Nat) (π : List Nat) (C : List (List Rat)) (f : Nat → List Rat) : Prop where
  lp : π.length = n
  lc : C.length = n
  b : ∀ i, i < n → gt π i < n
  inj : ∀ i j, i < n → j < n → gt π i = gt π j → i = j
  e : ∀ i, i < n → gt C (gt π i) = f i
theorem Rep.put {n k : Nat} {π : List Nat} {C : List (List Rat)} {f g : Nat → List Rat} {r : List Rat} (h : Rep n π C f) (hk : k < n) (g1 : g k = r) (g2 : ∀ i, i < n → i ≠ k → g i = f i) : Rep n π (C.set (gt π k) r) g where
  lp := h.lp
  lc := by simpa using h.lc
  b := h.b
  inj := h.inj
  e := fun i hi => by
    have hb := h.b i hi
    rw [gt_set (by rw [h.lc]; exact hb)]
    split
    · rename_i q; rw [← h.inj k i hk hi q, g1]
    · rename_i q; rw [g2 i hi (fun e => q (by rw [e])), h.e i hi]
theorem Rep.same {n : Nat} {π : List Nat} {C : List (List Rat)} {f g : Nat → List Rat} (h : Rep n π C f) (hg : ∀ i, i < n → g i = f i) : Rep n π C g :=
  ⟨h.lp, h.lc, h.b, h.inj, fun i hi => by rw [hg i hi]; exact h.e i hi⟩
theorem Rep.swap {n k t : Nat} {π : List Nat} {C m : List (List Rat)} (h : Rep n π C (gt m)) (hk : k < n) (ht : t < n) : Rep n ((π.set k (gt π t)).set t (gt π k)) C (swp m k t) := by
  have at' : ∀ i, i < n → gt ((π.set k (gt π t)).set t (gt π k)) i = gt π (if i = t then k else if i = k then t else i) := fun i hi => by
    rw [gt_set (by simpa [h.lp] using hi)]
    by_cases e1 : t = i
    · rw [if_pos e1, if_pos e1.symm]
    · rw [if_neg e1, if_neg (fun q => e1 q.symm), gt_set (by rw [h.lp]; exact hi)]
      by_cases e2 : k = i
      · rw [if_pos e2, if_pos e2.symm]
      · rw [if_neg e2, if_neg (fun q => e2 q.symm)]
  have bd : ∀ i, i < n → (if i = t then k else if i = k then t else i) < n := fun i hi => by
    split
    · exact hk
    · split
      · exact ht
      · exact hi
  refine ⟨by simpa using h.lp, h.lc, fun i hi => by rw [at' i hi]; exact h.b _ (bd i hi), fun i j hi hj q => ?_, fun i hi => ?_⟩
  · rw [at' i hi, at' j hj] at q
    have := h.inj _ _ (bd i hi) (bd j hj) q
    clear at' bd q
    split at this <;> split at this <;> (try split at this) <;> (try split at this) <;> omega
  · rw [at' i hi, h.e _ (bd i hi)]
    unfold swp
    by_cases e1 : i = k
    · rw [if_pos e1]
      by_cases e2 : i = t
      · subst e1; subst e2; simp
      · rw [if_neg e2, if_pos e1]
    · rw [if_neg e1]
      by_cases e2 : i = t
      · rw [if_pos e2, if_neg e1, if_pos e2]
      · rw [if_neg e2, if_neg e1, if_neg e2]
/-- the twin, its first i rows made -/
def outI (w n i : Nat) : List SV := (List.range n).map fun j => if j < i then vw w j else .ro []
@[simp] theorem outI_len (w n i : Nat) : (outI w n i).length = n := by simp [outI]
theorem outI_zero (w n : Nat) : outI w n 0 = List.replicate n (.ro []) := by simp [outI, List.map_const']
theorem outI_end (w n : Nat) : outI w n n = outV w (List.range n) := by
  unfold outI outV
  refine List.map_congr_left fun j hj => ?_
  rw [if_pos (by simpa using hj)]
theorem outI_set {w n i : Nat} (h : i < n) : lset (outI w n i) i (.view (i + 1) 0 w) = outI w n (i + 1) := by
  rw [lset_eq]
  unfold outI
  refine List.ext_getElem (by simp) fun j h1 h2 => ?_
  simp only [List.length_set, List.length_map, List.length_range] at h1
  rw [List.getElem_set]
  by_cases e : i = j
  · subst e; simp [vw]
  · rw [if_neg e]
    simp only [List.getElem_map, List.getElem_range]
    by_cases l : j < i
    · rw [if_pos l, if_pos (by omega)]
    · rw [if_neg l, if_neg (by omega)]
theorem lget_outI {w n i : Nat} (h : i < n) : lget (outI w n i) i = .ro [] := by
  rw [lget_eq (by simpa using h)]; simp [outI]
theorem usesL_outI {w n i k : Nat} (hk : i < k) : SV.usesL k (outI w n i) = false := by
  unfold outI
  rw [usesL_map, List.any_eq_false]
  intro j hj
  split
  · simp only [vw, uses_view, beq_iff_eq]; omega
  · simp
theorem nlL_many {n : Nat} {x : SV} : nlL (List.replicate n x) = List.replicate n (nlV x) := by
  induction n with
  | zero => rfl
  | succ n ih => simp [List.replicate_succ, ih]
theorem rwT_take {a : List (List Rat)} {i : Nat} (h : i < a.length) : rwT (a.take i) ++ [some ⟨4, (gt a i).map rsv, false⟩] = rwT (a.take (i + 1)) := by
  unfold rwT; rw [take_gt h]; simp
theorem Rep.init {n : Nat} {a : List (List Rat)} (h : a.length = n) : Rep n (List.range n) a (gt a) where
  lp := by simp
  lc := h
  b := fun i hi => by simp [gt, hi]
  inj := fun i j hi hj q => by simpa [gt, hi, hj] using q
  e := fun i hi => by congr 1; simp [gt, hi]
theorem ltL_outV {w k n : Nat} {π : List Nat} (h : ∀ i, i < π.length → gt π i < n) (hk : n < k) : SV.ltL k (outV w π) = true := by
  unfold outV
  rw [ltL_map, List.all_eq_true]
  intro x hx
  obtain ⟨i, hi, rfl⟩ := List.getElem_of_mem hx
  have := h i hi
  rw [gt_get hi]
  simp [vw]; omega
theorem ltM_rwT (k : Nat) (C : List (List Rat)) : ltM k (rwT C) := by
  unfold rwT
  induction C with
  | nil => trivial
  | cons x C ih => exact ⟨by simp, ih⟩
theorem ltM_ap {k : Nat} {A B : Tab} (h : ltM k A) (h' : ltM k B) : ltM k (A ++ B) := by
  induction A with
  | nil => exact h'
  | cons x A ih => cases x with
    | none => exact ih h
    | some e => exact ⟨h.1, ih h.2⟩
/-- the first j elements of a row divided -/
def divP (r : List Rat) (c j : Nat) : List Rat := (List.range r.length).map fun x => if x < j then gt r x / gt r c else gt r x
@[simp] theorem divP_len (r : List Rat) (c j : Nat) : (divP r c j).length = r.length := by simp [divP]
theorem tgA {n : Nat} {R : List (List Rat)} {tl : Tab} (h : R.length = n) : tget (rwT R ++ tl) n = tget tl 0 := tget_ap2 (i := 0) (by simpa using h)
theorem tgB {n : Nat} {R : List (List Rat)} {tl : Tab} (h : R.length = n) : tget (rwT R ++ tl) (n + 1) = tget tl 1 := tget_ap2 (i := 1) (by simpa using h)
theorem tsA {n : Nat} {R : List (List Rat)} {tl : Tab} {y : Option Ent} (h : R.length = n) : tset (rwT R ++ tl) n y = rwT R ++ tset tl 0 y := tset_ap2 (i := 0) (by simpa using h)
theorem tsB {n : Nat} {R : List (List Rat)} {tl : Tab} {y : Option Ent} (h : R.length = n) : tset (rwT R ++ tl) (n + 1) y = rwT R ++ tset tl 1 y := tset_ap2 (i := 1) (by simpa using h)
theorem tgC {n : Nat} {R : List (List Rat)} {tl : Tab} (h : R.length = n) : tget (rwT R ++ tl) (n + 2) = tget tl 2 := tget_ap2 (i := 2) (by simpa using h)
theorem renL_r (σ : Nat → Nat) (l : List Rat) : renL σ (l.map rsv) = l.map rsv := renL_pure σ _ (by simp)
/-! the end: all rows are frozen -/
theorem leM_idx : ∀ {M M' : Tab}, M'.length ≤ M.length → (∀ k, k < M'.length → M'[k]? = some none ∨ M[k]? = M'[k]?) → leM M M'
  | M, [], _, _ => by cases M <;> trivial
  | [], y :: M', h, _ => by simp at h
  | x :: M, y :: M', h, g => by
    refine ⟨?_, leM_idx (by simpa using h) fun k hk => by simpa using g (k + 1) (by simpa using hk)⟩
    simpa using g 0 (by simp)
def outF (w : Nat) (R : List (List Rat)) (j : Nat) (π : List Nat) : List SV := π.map fun e => if e < j then .ro ((gt R e).map rsv) else vw w e
def rwN (R : List (List Rat)) (j : Nat) : Tab := (List.range R.length).map fun e => if e < j then none else some ⟨4, (gt R e).map rsv, false⟩
theorem outF_zero (w : Nat) (R : List (List Rat)) (π : List Nat) : outF w R 0 π = outV w π := by simp [outF, outV]
theorem rwN_zero (R : List (List Rat)) : rwN R 0 = rwT R := by
  unfold rwN rwT
  refine List.ext_getElem (by simp) fun j h1 h2 => ?_
  simp at h1
  simp [gt_get h1]
theorem sbL_map {k : Nat} {es : List SV} {α : Type} (f : α → SV) (l : List α) : sbL k es (l.map f) = l.map fun x => sbV k es (f x) := by
  induction l with
  | nil => rfl
  | cons x l ih => simp [ih]
theorem outF_next {w j : Nat} {R : List (List Rat)} {π : List Nat} (h : ∀ e ∈ π, (gt R e).length = w) : sbL (j + 1) ((gt R j).map rsv) (outF w R j π) = outF w R (j + 1) π := by
  unfold outF
  rw [sbL_map]
  refine List.map_congr_left fun e he => ?_
  have hw := h e he
  by_cases e1 : e < j
  · rw [if_pos e1, if_pos (by omega)]; simp
  · rw [if_neg e1]
    unfold vw
    by_cases e2 : e = j
    · subst e2
      rw [if_pos (by omega)]
      simp [hw, List.take_of_length_le]
    · rw [if_neg (by omega)]
      simp [e2]
theorem tget_of : ∀ {M : Tab} {k : Nat} {x : Option Ent}, M[k]? = some x → tget M k = x
  | [], k, x, h => by simp at h
  | y :: M, 0, x, h => by simpa [tget] using h
  | y :: M, k + 1, x, h => by simpa [tget] using tget_of (M := M) (k := k) (by simpa using h)
theorem rwN_at {R : List (List Rat)} {j k : Nat} (h : k < R.length) : (rwN R j)[k]? = some (if k < j then none else some ⟨4, (gt R k).map rsv, false⟩) := by
  simp [rwN, h]
@[simp] theorem rwN_len (R : List (List Rat)) (j : Nat) : (rwN R j).length = R.length := by simp [rwN]
theorem outF_end {w n : Nat} {R : List (List Rat)} {π : List Nat} {m : List (List Rat)} (hr : Rep n π R (gt m)) (hm : m.length = n) : outF w R n π = m.map rlv := by
  refine List.ext_getElem (by simp [outF, hr.lp, hm]) fun i h1 h2 => ?_
  have hi : i < n := by simpa [outF, hr.lp] using h1
  simp only [outF, List.getElem_map]
  rw [gt_get (by rw [hr.lp]; exact hi), gt_get (by omega), if_pos (hr.b i hi), hr.e i hi]; rfl
end Go.Mx
namespace Go.Proofs
open Go.Sv Go Go.Tb Go.Pl Go.Ut Go.Mx
end Go.Proofs
namespace Go.Mx
open Go Go.Sv Go.Pl Go.Proofs Go.Tb Go.Ut
def tabX (t : List (List ByteArray)) : List SV := if okT t then (tabs t).map qlv else []
theorem tabX_eq (t : List (List ByteArray)) : tabsP t = .tup [.ro (tabX t), .val (.bool (okT t))] := by
  unfold tabsP tabX; cases okT t <;> simp
theorem width_eq (a : List (List Rat)) : ∃ w : Int, widthQ a = .tup [.val (.int .i64 w), .val (.bool (isTab a))] ∧ (isTab a = true → w = (wide a : Nat)) := by
  unfold widthQ
  by_cases h : a = []
  · subst h; exact ⟨0, by simp [isTab], fun _ => rfl⟩
  · rw [if_neg h, isTab_rect a h]
    cases hr : rect a with
    | true => exact ⟨_, by simp, fun _ => rfl⟩
    | false => exact ⟨0, by simp, by simp⟩
theorem gt_tabs {t : List (List ByteArray)} {i : Nat} (h : i < t.length) : gt (tabs t) i = nums (gt t i) := by simp [gt, tabs, h]
theorem isTab_at {a : List (List Rat)} (h : isTab a = true) {i : Nat} (hi : i < a.length) : (gt a i).length = wide a := by
  simp only [isTab, Bool.and_eq_true] at h
  exact (of_decide_eq_true (List.all_eq_true.1 h.2 _ (gt_mem hi))).1
theorem few_row {t : List (List ByteArray)} (h : Tb.Few t) : ∀ r ∈ tabs t, r.length ≤ 1048576 := fun r hr => by
  obtain ⟨i, hi, rfl⟩ := List.getElem_of_mem hr
  have e : (tabs t)[i] = gt (tabs t) i := gt_get hi
  rw [tabs_len] at hi
  rw [e, gt_tabs hi, nums_len]
  have := (h.r i hi).1
  omega
theorem tw_of {t : List (List ByteArray)} (h : Tb.Few t) (ht : isTab (tabs t) = true) : Tw t.length (wide (tabs t)) 2200 (tabs t) where
  l := by rw [tabs_len]
  r := fun i hi => isTab_at ht (by rw [tabs_len]; exact hi)
  q := fun i j hi hj => by
    have hw := isTab_at ht (i := i) (by rw [tabs_len]; exact hi)
    rw [gt_tabs hi] at hw ⊢
    rw [Go.Ut.gt_nums (by rw [nums_len] at hw; omega)]
    exact qw_qrd _
end Go.Mx
namespace Go.Proofs
open Go.Sv Go Go.Tb Go.Pl Go.Ut Go.Mx
theorem codedM_ok {c : Nat} (hc : 0 < c) (hc' : c ≤ 10) (n : Int) : PureE Tryz.prog 12 [erV c, iv n] (fun x => x = .val (.bool (decide ((c : Int) = n)))) := by
  refine pureE_enter Tryz.func12 rfl (by simp) (fun C hC hX hE => ?_)
  refine CodeJ.go ?_
  have cs := codeS_ok (j := c - 1) (by omega)
  have e : erV c = .sen sent (gs (c - 1)) := by unfold erV; rw [if_neg (by omega)]
  rw [show c - 1 + 1 = c by omega] at cs
  rw [e]
  simp
  refine callE cs hE hX (by simp) (fun x hx => ?_)
  subst hx
  simp
end Go.Proofs

