/- Tables made into reduced form: as a plain law. What the document's functions that reduce a table return. What matrix.take leaves behind. A text of the prover's own. -/
import Derived.Test.YtnimjdcaajmfcaaGreatDoorPMa
import Derived.Test.YtnimjdcaajmfcaaGreatDoorPUt
import Derived.Test.YtnimjdcaajmfcaaGreatDoorPEs
import Derived.Test.YtnimjdcaajmfcaaGreatDoorPQo
import Derived.Test.YtnimjdcaajmfcaaGreatDoorPVf
import Derived.Test.YtnimjdcaajmfcaaGreatDoorPVe
namespace Go.Mx
open Go Go.Sv Go.Pl Go.Proofs Go.Tb Go.Ut
def subR (a b : List Rat) (y : Rat) : List Rat := (List.range a.length).map fun j => gt a j - gt b j * y
def oneR (h : List Rat) (c : Nat) : List Rat := h.map fun x => x / gt h c
/-- rows k and t changed for each other -/
def swp (m : List (List Rat)) (k t i : Nat) : List Rat := if i = k then gt m t else if i = t then gt m k else gt m i
def redStep (m : List (List Rat)) (k t c : Nat) : List (List Rat) := (List.range m.length).map fun i =>
  if i = k then oneR (gt m t) c else subR (swp m k t i) (oneR (gt m t) c) (gt (swp m k t i) c)
open Classical in
/-- a table of n rows, w wide, with numbers of at most so many limbs -/
structure Tw (n w W : Nat) (m : List (List Rat)) : Prop where
  l : m.length = n
  r : ∀ i, i < n → (gt m i).length = w
  q : ∀ i j, i < n → j < w → qw W (gt (gt m i) j)
theorem gt_range {α : Type} [Inhabited α] (f : Nat → α) {n i : Nat} (h : i < n) : gt ((List.range n).map f) i = f i := by simp [gt, h]
@[simp] theorem subR_len (a b : List Rat) (y : Rat) : (subR a b y).length = a.length := by simp [subR]
@[simp] theorem oneR_len (h : List Rat) (c : Nat) : (oneR h c).length = h.length := by simp [oneR]
theorem gt_subR {a b : List Rat} {y : Rat} {j : Nat} (h : j < a.length) : gt (subR a b y) j = gt a j - gt b j * y := by unfold subR; rw [gt_range _ h]
theorem gt_oneR {a : List Rat} {c j : Nat} (h : j < a.length) : gt (oneR a c) j = gt a j / gt a c := by unfold oneR; rw [gt_map _ h]
@[simp] theorem redStep_len (m : List (List Rat)) (k t c : Nat) : (redStep m k t c).length = m.length := by simp [redStep]
theorem gt_redStep {m : List (List Rat)} {k t c i : Nat} (h : i < m.length) : gt (redStep m k t c) i = if i = k then oneR (gt m t) c else subR (swp m k t i) (oneR (gt m t) c) (gt (swp m k t i) c) := by
  unfold redStep; rw [gt_range _ h]
theorem Tw.mono {n w W W' : Nat} {m : List (List Rat)} (h : Tw n w W m) (hw : W ≤ W') : Tw n w W' m := ⟨h.l, h.r, fun i j hi hj => qw_mono (h.q i j hi hj) hw⟩
theorem swp_w {n w W : Nat} {m : List (List Rat)} (h : Tw n w W m) {k t i : Nat} (hk : k < n) (ht : t < n) (hi : i < n) : (swp m k t i).length = w ∧ ∀ j, j < w → qw W (gt (swp m k t i) j) := by
  unfold swp
  split
  · exact ⟨h.r t ht, fun j hj => h.q t j ht hj⟩
  · split
    · exact ⟨h.r k hk, fun j hj => h.q k j hk hj⟩
    · exact ⟨h.r i hi, fun j hj => h.q i j hi hj⟩
theorem one_w {n w W : Nat} {m : List (List Rat)} (h : Tw n w W m) {t c : Nat} (ht : t < n) (hc : c < w) (hW : 1 ≤ W) : (oneR (gt m t) c).length = w ∧ ∀ j, j < w → qw (2 * W) (gt (oneR (gt m t) c) j) := by
  refine ⟨by simp [h.r t ht], fun j hj => ?_⟩
  rw [gt_oneR (by rw [h.r t ht]; exact hj)]
  exact qw_mono (qw_div (h.q t j ht hj) (h.q t c ht hc) hW) (by omega)
theorem sub_w {w W : Nat} {a b : List Rat} {y : Rat} (la : a.length = w) (ha : ∀ j, j < w → qw W (gt a j)) (hb : ∀ j, j < w → qw (2 * W) (gt b j)) (hy : qw W y) (hW : 1 ≤ W) : ∀ j, j < w → qw (5 * W) (gt (subR a b y) j) := fun j hj => by
  rw [gt_subR (by omega)]
  exact qw_mono (qw_sub (ha j hj) (qw_mul (hb j hj) hy (by omega))) (by omega)
theorem Tw.step {n w W : Nat} {m : List (List Rat)} (h : Tw n w W m) {k t c : Nat} (hk : k < n) (ht : t < n) (hc : c < w) (hW : 1 ≤ W) : Tw n w (5 * W) (redStep m k t c) where
  l := by rw [redStep_len, h.l]
  r := fun i hi => by
    rw [gt_redStep (by rw [h.l]; exact hi)]
    split
    · exact (one_w h ht hc hW).1
    · rw [subR_len]; exact (swp_w h hk ht hi).1
  q := fun i j hi hj => by
    rw [gt_redStep (by rw [h.l]; exact hi)]
    split
    · exact qw_mono ((one_w h ht hc hW).2 j hj) (by omega)
    · have s := swp_w h hk ht hi
      exact sub_w s.1 s.2 (one_w h ht hc hW).2 (s.2 c hc) hW j hj
theorem pow5_le {e n : Nat} (h : e ≤ n) (hn : n ≤ 6) : 2200 * 5 ^ e ≤ 34375000 := by
  have : 5 ^ e ≤ 5 ^ 6 := Nat.pow_le_pow_right (by omega) (by omega)
  omega
theorem usesL_tk {α : Type} (k i : Nat) (f : α → SV) (l : List α) : SV.usesL k ((l.map f).take i) = (l.take i).any fun x => (f x).uses k := by
  rw [← List.map_take, usesL_map]
theorem pureL_tk {α : Type} (i : Nat) (f : α → SV) (l : List α) : SV.pureL ((l.map f).take i) = (l.take i).all fun x => (f x).pure := by
  rw [← List.map_take, pureL_map]
theorem ltL_tk {α : Type} (k i : Nat) (f : α → SV) (l : List α) : SV.ltL k ((l.map f).take i) = (l.take i).all fun x => (f x).lt k := by
  rw [← List.map_take, ltL_map]
attribute [simp] usesL_map usesL_tk pureL_tk ltL_tk
theorem take1 {α : Type} [Inhabited α] (f : α → SV) {l : List α} {i : Nat} (h : i < l.length) : (l.map f).take (i + 1) = (l.map f).take i ++ [f (gt l i)] := by
  rw [← List.map_take, take_gt h]; simp
end Go.Mx
namespace Go.Proofs
open Go.Sv Go Go.Tb Go.Pl Go.Ut Go.Mx
set_option maxRecDepth 10000 in
theorem rWithout_ok (a b : List Rat) (y : Rat) (hl : b.length = a.length) (hn : a.length ≤ 1048576) (ha : ∀ j, j < a.length → qok (gt a j)) (hb : ∀ j, j < a.length → qok (gt b j)) (hy : qok y) (hp : ∀ j, j < a.length → qok (gt b j * y)) :
    PureF Tryz.prog 102 [.ro (a.map qsv), .ro (b.map qsv), qsv y] (.ro ((subR a b y).map qsv)) := by
  refine pure_enter Tryz.func102 rfl (by simp) (fun C hC => ?_)
  simp
  refine CodeJ.nil 7 4 rfl ?_
  refine CodeJ.loopL (ι := Nat) (fun i => ⟨34, [(0, .ro (a.map qsv)), (1, .ro (b.map qsv)), (5, .ptr 0 0 0), (7, .view 1 0 i), (8, iv i)], [some ⟨4, [qsv y], false⟩, some ⟨4, ((subR a b y).take i).map qsv, false⟩]⟩)
    (fun i => i ≤ a.length) (fun i => a.length - i) 0 (by simp) ?_ ?_
  · simp [leS, hC]
  · rintro i hi
    by_cases hlt : i < a.length
    · have q1 := lget_q hlt
      have q2 := lget_q (show i < b.length by omega)
      simp (disch := omega) [hlt, hl]
      repeat (refine And.intro (by omega) ?_)
      refine CodeJ.drawZ (.d 6 <| .qs [0, 1, 2, 3, 4] <| .p 5 <| .b ( .l 7 [2] <| .nil )) (by kernel_rfl) (by kernel_rfl) (by simp) ?_
      simp (disch := omega) [hlt, hl, q1, q2]
      repeat (refine And.intro (by omega) ?_)
      refine callV (pMul_ok _ _ (hb i hlt) hy) (by simp) ?_
      simp (disch := omega) [hlt, hl, q1, q2]
      repeat (refine And.intro (by omega) ?_)
      refine CodeJ.drawZ (.d 6 <| .qs [0, 1, 2, 3, 4] <| .p 5 <| .b ( .l 7 [3] <| .nil )) (by kernel_rfl) (by kernel_rfl) (by simp) ?_
      simp (disch := omega) [hlt, hl, q1, q2]
      repeat (refine And.intro (by omega) ?_)
      refine callV (pSub_ok _ _ (ha i hlt) (hp i hlt)) (by simp) ?_
      simp (disch := omega) [hlt, hl, q1, q2, w64]
      repeat (refine And.intro (by omega) ?_)
      exact ⟨⟨by simp [hC], by omega⟩, i + 1, by omega, by omega, Le.syn (by simp (disch := omega) [leS, hC, w64, take1 qsv (show i < (subR a b y).length by simpa using hlt), gt_subR])⟩
    · obtain rfl : i = a.length := by omega
      have e : ((subR a b y).map qsv).take a.length = (subR a b y).map qsv := List.take_of_length_le (by simp)
      simp [e]
def natV (i : Nat) : SV := iv i
@[simp] theorem natV_iv (i : Nat) : natV i = iv i := rfl
end Go.Proofs
namespace Go.Mx
open Go Go.Sv Go.Pl Go.Proofs Go.Tb Go.Ut
/-- the first i elements done -/
def subP (r o : List Rat) (y : Rat) (i : Nat) : List Rat := (List.range r.length).map fun j => if j < i then gt r j - gt o j * y else gt r j
@[simp] theorem subP_len (r o : List Rat) (y : Rat) (i : Nat) : (subP r o y i).length = r.length := by simp [subP]
theorem gt_subP {r o : List Rat} {y : Rat} {i j : Nat} (h : j < r.length) : gt (subP r o y i) j = if j < i then gt r j - gt o j * y else gt r j := by unfold subP; rw [gt_range _ h]
theorem subP_zero (r o : List Rat) (y : Rat) : subP r o y 0 = r := ext_gt' (by simp) fun j h => by rw [gt_subP (by simpa using h)]; simp
theorem subP_end (r o : List Rat) (y : Rat) : subP r o y r.length = subR r o y := ext_gt' (by simp) fun j h => by
  have h : j < r.length := by simpa using h
  rw [gt_subP h, gt_subR h, if_pos h]
theorem subR_zero (r o : List Rat) : subR r o 0 = r := ext_gt' (by simp) fun j h => by
  rw [gt_subR (by simpa using h), Rat.mul_zero, Rat.sub_eq_add_neg, Rat.neg_zero, Rat.add_zero]
theorem subP_set {r o : List Rat} {y : Rat} {i : Nat} (h : i < r.length) : (subP r o y i).set i (gt r i - gt o i * y) = subP r o y (i + 1) := ext_gt' (by simp) fun j hj => by
  have hj : j < r.length := by simpa using hj
  rw [gt_set (by simpa using hj), gt_subP hj, gt_subP hj]
  by_cases e : i = j
  · subst e; simp
  · rw [if_neg e]
    by_cases l : j < i
    · rw [if_pos l, if_pos (by omega)]
    · rw [if_neg l, if_neg (by omega)]
theorem subP_skip {r o : List Rat} {y : Rat} {i : Nat} (h : i < r.length) (hz : gt o i = 0) : subP r o y (i + 1) = subP r o y i := by
  rw [← subP_set h, hz, Rat.zero_mul, Rat.sub_eq_add_neg, Rat.neg_zero, Rat.add_zero]
  refine ext_gt' (by simp) fun j hj => ?_
  have hj : j < r.length := by simpa using hj
  rw [gt_set (by simpa using hj), gt_subP hj]
  by_cases e : i = j
  · subst e; simp
  · rw [if_neg e]
end Go.Mx
namespace Go.Proofs
open Go.Sv Go Go.Tb Go.Pl Go.Ut Go.Mx
end Go.Proofs

