/- What StockValid and pattern of the document, and validStock of package plan, return. What both functions richest return: the best worth of what fits into a roll. What plan.richest returns. What the document's CutRight returns: whether a cutting shows that it is right. A text of the prover's own. -/
import Derived.Test.YtlkaaaoeemejoaaGreatDoorQMh
namespace Go.Cu
open Go Go.Sv Go.Pl Go.Proofs Go.Tb
abbrev Sz := Int × Int
def sizeV (s : Sz) : SV := .agg [.val (.int .i64 s.1), .val (.int .i64 s.2)]
@[simp] theorem sizeV_cells (s : Sz) : (sizeV s).cells = [.val (.int .i64 s.1), .val (.int .i64 s.2)] := rfl
@[simp] theorem sizeV_csz (s : Sz) : (sizeV s).csz = 2 := rfl
@[simp] theorem sizeV_isTup (s : Sz) : (sizeV s).isTup = false := rfl
@[simp] theorem sizeV_isAgg (s : Sz) : (sizeV s).isAgg = true := rfl
@[simp] theorem sizeV_one (s : Sz) : (sizeV s).one = false := rfl
@[simp] theorem sizeV_pure (s : Sz) : (sizeV s).pure = true := rfl
@[simp] theorem sizeV_lt (n : Nat) (s : Sz) : (sizeV s).lt n = true := rfl
@[simp] theorem sizeV_uses (n : Nat) (s : Sz) : (sizeV s).uses n = false := rfl
@[simp] theorem sizeV_ks (s : Sz) : (sizeV s).ks = [] := rfl
def iv (n : Int) : SV := .val (.int .i64 n)
@[simp] theorem iv_val (n : Int) : iv n = .val (.int .i64 n) := rfl
def ilv (l : List Int) : SV := .ro (l.map iv)
@[simp] theorem ilv_val (l : List Int) : ilv l = .ro (l.map iv) := rfl
theorem lget_sz {l : List Sz} {i : Nat} (h : i < l.length) : lget (l.map sizeV) i = sizeV (gt l i) := lget_m _ h
theorem lget_iv {l : List Int} {i : Nat} (h : i < l.length) : lget (l.map iv) i = iv (gt l i) := lget_m _ h
theorem lget_ilv {l : List (List Int)} {i : Nat} (h : i < l.length) : lget (l.map ilv) i = ilv (gt l i) := lget_m _ h
@[simp] theorem okE_sz (l : List Sz) : okE 2 (l.map sizeV) = True := by cases l <;> simp [okE]
@[simp] theorem okE_iv (l : List Int) : okE 1 (l.map iv) = True := by cases l <;> simp [okE]
@[simp] theorem okE_ilv (l : List (List Int)) : okE 1 (l.map ilv) = True := by cases l <;> simp [okE]
/-- what is wrong with a stock, by number -/
def stockL (roll : Int) : List Sz → Nat
  | [] => 0
  | s :: r => if s.2 < 0 ∨ 100000000 < s.2 then 2 else if s.1 < 1 ∨ roll < s.1 then 4 else stockL roll r
def stockC (roll : Int) (sizes : List Sz) : Nat := if roll < 1 ∨ 200 < roll ∨ 12 < sizes.length then 2 else stockL roll sizes
theorem drop_gt {α : Type} [Inhabited α] {l : List α} {i : Nat} (h : i < l.length) : l.drop i = gt l i :: l.drop (i + 1) := by
  rw [List.drop_eq_getElem_cons h, gt_get h]
theorem stockL_at {roll : Int} {l : List Sz} {i : Nat} (h : i < l.length) : stockL roll (l.drop i) = if (gt l i).2 < 0 ∨ 100000000 < (gt l i).2 then 2 else if (gt l i).1 < 1 ∨ roll < (gt l i).1 then 4 else stockL roll (l.drop (i + 1)) := by
  rw [drop_gt h]; rfl
/-- a stock that is one -/
structure Stk (roll : Int) (sizes : List Sz) : Prop where
  r1 : 1 ≤ roll
  r2 : roll ≤ 200
  n : sizes.length ≤ 12
  s : ∀ i, i < sizes.length → 1 ≤ (gt sizes i).1 ∧ (gt sizes i).1 ≤ roll ∧ 0 ≤ (gt sizes i).2 ∧ (gt sizes i).2 ≤ 100000000
theorem stockL_zero {roll : Int} : ∀ {l : List Sz}, stockL roll l = 0 → ∀ s ∈ l, 1 ≤ s.1 ∧ s.1 ≤ roll ∧ 0 ≤ s.2 ∧ s.2 ≤ 100000000
  | [], _, s, hs => by cases hs
  | x :: l, h, s, hs => by
    simp only [stockL] at h
    split at h
    · omega
    · split at h
      · omega
      · rcases List.mem_cons.1 hs with rfl | hs
        · omega
        · exact stockL_zero h s hs
theorem stk_of {roll : Int} {sizes : List Sz} (h : stockC roll sizes = 0) : Stk roll sizes := by
  unfold stockC at h
  split at h
  · omega
  · exact ⟨by omega, by omega, by omega, fun i hi => stockL_zero h _ (gt_mem hi)⟩
theorem stockL_le {roll : Int} : ∀ {l : List Sz}, stockL roll l = 0 ∨ stockL roll l = 2 ∨ stockL roll l = 4
  | [] => .inl rfl
  | x :: l => by
    simp only [stockL]
    split
    · exact .inr (.inl rfl)
    · split
      · exact .inr (.inr rfl)
      · exact stockL_le
theorem stockC_le (roll : Int) (l : List Sz) : stockC roll l = 0 ∨ stockC roll l = 2 ∨ stockC roll l = 4 := by
  unfold stockC; split
  · exact .inr (.inl rfl)
  · exact stockL_le
/-- an error by its number -/
def erV (c : Nat) : SV := if c = 0 then .val .nilIface else .sen sent (gs (c - 1))
/-- does a pattern fit? -/
def patB (left : Int) : List Sz → List Int → Bool
  | s :: r, n :: l => if n < 0 ∨ Int.tdiv left s.1 < n then false else patB (left - n * s.1) r l
  | _, _ => true
theorem patB_at {left : Int} {ss : List Sz} {l : List Int} {i : Nat} (h : i < ss.length) (h' : i < l.length) : patB left (ss.drop i) (l.drop i) = if gt l i < 0 ∨ Int.tdiv left (gt ss i).1 < gt l i then false else patB (left - gt l i * (gt ss i).1) (ss.drop (i + 1)) (l.drop (i + 1)) := by
  rw [drop_gt h, drop_gt h']; rfl
theorem patB_end {left : Int} {ss : List Sz} {l : List Int} {i : Nat} (h : l.length ≤ i) : patB left (ss.drop i) (l.drop i) = true := by
  rw [List.drop_eq_nil_of_le h]; cases ss.drop i <;> rfl
theorem tdiv_in {left s : Int} (h0 : 0 ≤ left) (h1 : 1 ≤ s) : 0 ≤ Int.tdiv left s ∧ Int.tdiv left s ≤ left := by
  have e : Int.tdiv left s = left / s := Int.tdiv_eq_ediv_of_nonneg h0
  rw [e]
  exact ⟨Int.ediv_nonneg h0 (by omega), Int.ediv_le_self _ h0⟩
theorem left_le {left n s : Int} (h0 : 0 ≤ left) (h1 : 1 ≤ s) (h2 : 0 ≤ n) (h3 : n ≤ Int.tdiv left s) : 0 ≤ n * s ∧ n * s ≤ left := by
  have e : Int.tdiv left s = left / s := Int.tdiv_eq_ediv_of_nonneg h0
  rw [e] at h3
  have := Int.mul_le_mul_of_nonneg_right h3 (show (0 : Int) ≤ s by omega)
  have := Int.ediv_mul_le left (show s ≠ 0 by omega)
  exact ⟨Int.mul_nonneg h2 (by omega), by omega⟩
end Go.Cu
namespace Go.Proofs
open Go.Sv Go Go.Tb Go.Pl Go.Cu
theorem erV_0 : erV 0 = .val .nilIface := rfl
theorem erV_2 : erV 2 = .sen sent 1 := rfl
theorem erV_4 : erV 4 = .sen sent 0 := rfl
set_option maxRecDepth 10000 in
theorem rStock_ok (roll : Int) (sizes : List Sz) (hl : sizes.length ≤ 1048576) : PureF Tryz.prog 16 [iv roll, .ro (sizes.map sizeV)] (.val (.int .i64 (stockC roll sizes : Nat))) := by
  refine pure_enter Tryz.func16 rfl (by simp) (fun C hC => ?_)
  simp
  by_cases h0 : roll < 1 ∨ 200 < roll ∨ 12 < sizes.length
  · have e : stockC roll sizes = 2 := by unfold stockC; rw [if_pos h0]
    rw [e]
    exact ⟨fun c1 => ⟨fun c2 => ⟨fun _ => rfl, fun c3 => by omega⟩, fun _ => rfl⟩, fun _ => rfl⟩
  · have e : stockC roll sizes = stockL roll sizes := by unfold stockC; rw [if_neg h0]
    rw [e]
    refine ⟨fun c1 => ⟨fun c2 => ⟨fun c3 => by omega, fun c3 => ?_⟩, fun _ => by omega⟩, fun _ => by omega⟩
    refine CodeJ.loop (ι := Nat) (fun i => ⟨52, [(0, .val (.int .i64 roll)), (1, .ro (sizes.map sizeV)), (5, .val (.int .i64 i))], []⟩)
      (fun i => i ≤ sizes.length ∧ stockL roll (sizes.drop i) = stockL roll sizes) (fun i => sizes.length - i) 0 ?_ ?_ ?_
    · simp
    · simp [leS, hC]
    · rintro i ⟨hi, hk⟩
      by_cases hlt : i < sizes.length
      · rw [stockL_at hlt] at hk
        simp (disch := omega) [hlt, lget_sz]
        refine ⟨fun a1 => ⟨fun a2 => ?_, fun a2 => ⟨fun a3 => ⟨fun a4 => ?_, fun a4 => ⟨i + 1, ⟨by omega, ?_⟩, by omega, by simp (disch := omega) [leS, hC, w64]⟩⟩, fun a3 => ?_⟩⟩, fun a1 => ?_⟩
        · rw [← hk, if_pos (by omega)]; rfl
        · rw [← hk, if_neg (by omega), if_pos (by omega)]; rfl
        · rw [← hk, if_neg (by omega), if_neg (by omega)]
        · rw [← hk, if_neg (by omega), if_pos (by omega)]; rfl
        · rw [← hk, if_pos (by omega)]; rfl
      · obtain rfl : i = sizes.length := by omega
        rw [List.drop_length] at hk
        simp [← hk, stockL]
set_option maxRecDepth 10000 in
theorem vStock_ok (roll : Int) (sizes : List Sz) (hl : sizes.length ≤ 1048576) : PureF Tryz.prog 69 [iv roll, .ro (sizes.map sizeV)] (erV (stockC roll sizes)) := by
  refine pure_enter Tryz.func69 rfl (by simp) (fun C hC => ?_)
  simp
  by_cases h0 : roll < 1 ∨ 200 < roll ∨ 12 < sizes.length
  · have e : stockC roll sizes = 2 := by unfold stockC; rw [if_pos h0]
    rw [e, erV_2]
    exact ⟨fun c1 => ⟨fun c2 => ⟨fun _ => rfl, fun c3 => by omega⟩, fun _ => rfl⟩, fun _ => rfl⟩
  · have e : stockC roll sizes = stockL roll sizes := by unfold stockC; rw [if_neg h0]
    rw [e]
    refine ⟨fun c1 => ⟨fun c2 => ⟨fun c3 => by omega, fun c3 => ?_⟩, fun _ => by omega⟩, fun _ => by omega⟩
    refine CodeJ.loopL (ι := Nat) (fun i => ⟨45, [(0, .val (.int .i64 roll)), (19, .ro (sizes.map sizeV)), (20, .val (.int .i64 sizes.length)), (21, .val (.int .i64 i))], []⟩)
      (fun i => i ≤ sizes.length ∧ stockL roll (sizes.drop i) = stockL roll sizes) (fun i => sizes.length - i) 0 ?_ ?_ ?_
    · simp
    · simp [leS, hC]
    · rintro i ⟨hi, hk⟩
      by_cases hlt : i < sizes.length
      · rw [stockL_at hlt] at hk
        simp (disch := omega) [hlt, lget_sz]
        refine ⟨fun a1 => ⟨fun a2 => ?_, fun a2 => ⟨fun a3 => ⟨fun a4 => ?_, fun a4 => ⟨i + 1, ⟨by omega, ?_⟩, by omega, Le.syn (by simp (disch := omega) [leS, hC, w64])⟩⟩, fun a3 => ?_⟩⟩, fun a1 => ?_⟩
        · rw [← hk, if_pos (by omega)]; rfl
        · rw [← hk, if_neg (by omega), if_pos (by omega)]; rfl
        · rw [← hk, if_neg (by omega), if_neg (by omega)]
        · rw [← hk, if_neg (by omega), if_pos (by omega)]; rfl
        · rw [← hk, if_pos (by omega)]; rfl
      · obtain rfl : i = sizes.length := by omega
        rw [List.drop_length] at hk
        simp [← hk, stockL, erV_0]
set_option maxRecDepth 10000 in
theorem pattern_ok (roll : Int) (sizes : List Sz) (hs : Stk roll sizes) (l : List Int) (hl : l.length ≤ 140737488351232) : PureF Tryz.prog 79 [iv roll, .ro (sizes.map sizeV), .ro (l.map iv)] (.val (.bool (decide (l.length = sizes.length) && patB roll sizes l))) := by
  have n1 := hs.n
  have r1 := hs.r1
  have r2 := hs.r2
  refine pure_enter Tryz.func79 rfl (by simp) (fun C hC => ?_)
  simp
  refine ⟨fun c => fun c' => absurd c' (by omega), fun c => ?_⟩
  have c' : l.length = sizes.length := by omega
  refine CodeJ.loop (ι := Nat × Int) (fun ⟨i, lf⟩ => ⟨52, [(1, .ro (sizes.map sizeV)), (2, .ro (l.map iv)), (7, .val (.int .i64 lf)), (8, .val (.int .i64 i))], []⟩)
    (fun ⟨i, lf⟩ => i ≤ l.length ∧ 0 ≤ lf ∧ lf ≤ roll ∧ patB lf (sizes.drop i) (l.drop i) = patB roll sizes l) (fun ⟨i, lf⟩ => l.length - i) (0, roll) ?_ ?_ ?_
  · exact ⟨by omega, by omega, by omega, rfl⟩
  · simp [leS, hC]
  · rintro ⟨i, lf⟩ ⟨hi, h0, h1, hk⟩
    by_cases hlt : i < l.length
    · have hls : i < sizes.length := by omega
      have s1 := (hs.s i hls).1
      obtain ⟨d0, d1⟩ := tdiv_in h0 s1
      rw [patB_at hls hlt] at hk
      simp (disch := omega) [hlt]
      refine CodeJ.draw (.qs [0, 1, 2, 3, 4, 5, 6, 7, 8, 9, 10, 11, 12, 13, 14, 15, 16, 17, 18] <| .nil) (by kernel_rfl) (by kernel_rfl) (by simp) ?_
      simp (disch := omega) [hlt, hls, lget_sz, lget_iv, w64]
      refine ⟨fun a1 => ⟨by omega, fun a2 => fun _ => ?_, fun a2 => ?_⟩, fun a1 => fun _ => ?_⟩
      · rw [← hk, if_pos (by omega)]
      · rw [if_neg (by omega)] at hk
        obtain ⟨g1, g2⟩ := left_le h0 s1 a1 a2
        refine CodeJ.draw (.qs [0, 1, 2, 3, 4, 5, 6, 7, 8, 9, 10, 11, 12] <| .nil) (by kernel_rfl) (by kernel_rfl) (by simp) ?_
        simp (disch := omega) [hlt, hls, lget_sz, lget_iv, w64]
        exact ⟨i + 1, lf - gt l i * (gt sizes i).1, ⟨by omega, by omega, by omega, hk⟩, by omega, by simp (disch := omega) [leS, hC, w64]⟩
      · rw [← hk, if_pos (by omega)]
    · rw [patB_end (by omega)] at hk
      obtain rfl : i = l.length := by omega
      simp [← hk, c']
end Go.Proofs
namespace Go.Cu
open Go Go.Sv Go.Pl Go.Proofs Go.Tb
/-- the best worth of a roll of length n, of the first i sizes as the last piece -/
def inn (sz : List Sz) (w : List Rat) (tb : List Rat) (n : Nat) : Nat → Rat
  | 0 => 0
  | i + 1 => if (n : Int) < (gt sz i).1 then inn sz w tb n i else if inn sz w tb n i < gt tb (n - (gt sz i).1.toNat) + gt w i then gt tb (n - (gt sz i).1.toNat) + gt w i else inn sz w tb n i
def tb (sz : List Sz) (w : List Rat) : Nat → List Rat
  | 0 => []
  | n + 1 => tb sz w n ++ [inn sz w (tb sz w n) n sz.length]
def rich (sz : List Sz) (w : List Rat) (R : Nat) : Rat := inn sz w (tb sz w R) R sz.length
@[simp] theorem tb_len (sz : List Sz) (w : List Rat) : ∀ n, (tb sz w n).length = n
  | 0 => rfl
  | n + 1 => by simp [tb, tb_len sz w n]
theorem tb_succ (sz : List Sz) (w : List Rat) (n : Nat) : tb sz w (n + 1) = tb sz w n ++ [inn sz w (tb sz w n) n sz.length] := rfl
theorem gt_app {α : Type} [Inhabited α] {l r : List α} {i : Nat} (h : i < l.length) : gt (l ++ r) i = gt l i := by
  simp [gt, List.getElem?_append_left h]
theorem gt_tb (sz : List Sz) (w : List Rat) {m : Nat} : ∀ {n : Nat}, m < n → gt (tb sz w n) m = rich sz w m
  | n + 1, h => by
    rw [tb_succ]
    by_cases e : m < n
    · rw [gt_app (by simpa using e), gt_tb sz w e]
    · obtain rfl : m = n := by omega
      simp [gt, rich]
theorem tb_end (sz : List Sz) (w : List Rat) (R : Nat) : gt (tb sz w (R + 1)) R = rich sz w R := gt_tb sz w (by omega)
abbrev zA : SV := .agg [.val (.bool false), .val (.slice none 0 0), .val (.bool false), .val (.slice none 0 0)]
theorem ltL_rep {n k : Nat} : SV.ltL n (List.replicate k zA) = true := by
  induction k with
  | zero => rfl
  | succ k ih => rw [List.replicate_succ]; simp [SV.ltL, ih]
theorem cmp_gt {x y : Rat} (h : y < x) : (if x < y then (-1 : Int) else if y < x then 1 else 0) = 1 := by
  rw [if_neg (Rat.not_lt.2 (Rat.le_of_lt h)), if_pos h]
theorem cmp_le {x y : Rat} (h : ¬ y < x) : ∃ v : Int, v ≤ 0 ∧ (if x < y then (-1 : Int) else if y < x then 1 else 0) = v := by
  refine ⟨_, ?_, rfl⟩
  split
  · omega
  · omega
/-- numbers of a bounded width -/
def Wd (k : Nat) (w : List Rat) : Prop := ∀ i, i < w.length → qw k (gt w i)
theorem qw_inn {R : Int} {sz : List Sz} {w : List Rat} (hs : Stk R sz) (hw : Wd 2200 w) (hl : w.length = sz.length) : ∀ (n i : Nat), i ≤ sz.length → qw (1 + 2201 * n) (inn sz w (tb sz w n) n i)
  | n, 0, _ => qw_zero _ (by omega)
  | n, i + 1, h => by
    have h1 := qw_inn hs hw hl n i (by omega)
    have hz := hs.s i (by omega)
    simp only [inn]
    split
    · exact h1
    · rename_i hn
      split
      · rw [gt_tb sz w (by omega)]
        have := qw_inn hs hw hl (n - (gt sz i).1.toNat) sz.length (Nat.le_refl _)
        exact qw_mono (qw_add this (hw i (by omega))) (by omega)
      · exact h1
  termination_by n i => (n, i)
end Go.Cu
namespace Go.Proofs
open Go.Sv Go Go.Tb Go.Pl Go.Cu
set_option maxRecDepth 10000 in
theorem rRichest_ok (R : Nat) (sz : List Sz) (hs : Stk R sz) (w : List Rat) (hw : Wd 2200 w) (hl : w.length = sz.length) : PureF Tryz.prog 83 [iv R, .ro (sz.map sizeV), .ro (w.map qsv)] (qsv (rich sz w R)) := by
  have n1 := hs.n
  have r2 := hs.r2
  refine pure_enter Tryz.func83 rfl (by simp) (fun C hC => ?_)
  simp (disch := omega) [w64]
  refine ⟨by omega, ?_⟩
  refine CodeJ.loopL (ι := Nat) (fun n => ⟨68, [(0, iv R), (1, .ro (sz.map sizeV)), (2, .ro (w.map qsv)), (6, .ptr 0 0 0), (7, .view 1 0 (R + 1)), (8, iv n)], [some ⟨4, [zA], false⟩, some ⟨4, (tb sz w n).map qsv ++ List.replicate (R + 1 - n) zA, false⟩]⟩)
    (fun n => n ≤ R + 1) (fun n => R + 1 - n) 0 ?_ ?_ ?_
  · simp
  · simp [leS, hC, tb]
  · rintro n hn
    by_cases hlt : n ≤ R
    · have hlt' : (n : Int) ≤ R := by omega
      have e : R + 1 - n = (R - n) + 1 := by omega
      simp (disch := omega) [hlt, hlt', e, List.replicate_succ]
      refine callS (pInt_ok 0 (by omega) (by omega)) (by simp) ?_
      have l1 : ∀ x r, lget ((tb sz w n).map qsv ++ x :: r) n = x := fun x r => lget_at _ (by simp)
      have l2 : ∀ x y r, lset ((tb sz w n).map qsv ++ x :: r) n y = (tb sz w n).map qsv ++ y :: r := fun x y r => lset_at _ (by simp)
      have l3 : ∀ m r, m < n → lget ((tb sz w n).map qsv ++ r) m = qsv (gt (tb sz w n) m) := fun m r h => by rw [lget_app_lt (by simpa using h), lget_q (by simpa using h)]
      simp (disch := omega) [l1, l2]
      refine ⟨by omega, ?_⟩
      refine CodeJ.loopL (ι := Nat) (fun i => ⟨68, [(0, iv R), (1, .ro (sz.map sizeV)), (2, .ro (w.map qsv)), (6, .ptr 0 0 0), (7, .view 1 0 (R + 1)), (8, iv n), (9, iv i)], [some ⟨4, [zA], false⟩, some ⟨4, (tb sz w n).map qsv ++ qsv (inn sz w (tb sz w n) n i) :: List.replicate (R - n) zA, false⟩]⟩)
        (fun i => i ≤ sz.length) (fun i => sz.length - i) 0 ?_ ?_ ?_
      · simp
      · simp [leS, hC]
        rfl
      · rintro i hi
        by_cases hit : i < sz.length
        · have q1 := qw_inn hs hw hl n i hi
          have q2 := hw i (by omega)
          obtain ⟨s1, s2, -⟩ := hs.s i hit
          obtain ⟨L, hL⟩ : ∃ L : Nat, (gt sz i).1 = L := ⟨(gt sz i).1.toNat, by omega⟩
          simp (disch := omega) [hit, lget_sz, hL]
          refine ⟨fun c1 => ?_, fun c1 => ?_⟩
          · have e1 : inn sz w (tb sz w n) n (i + 1) = inn sz w (tb sz w n) n i := by simp only [inn]; rw [if_pos (by omega)]
            exact ⟨i + 1, by omega, by omega, Le.syn (by simp (disch := omega) [leS, hC, w64, e1])⟩
          · have q3 := qw_inn hs hw hl (n - L) sz.length (Nat.le_refl _)
            have e0 : gt (tb sz w n) (n - L) = rich sz w (n - L) := gt_tb sz w (by omega)
            have eL : (gt sz i).1.toNat = L := by omega
            have ei : inn sz w (tb sz w n) n (i + 1) = if inn sz w (tb sz w n) n i < rich sz w (n - L) + gt w i then rich sz w (n - L) + gt w i else inn sz w (tb sz w n) n i := by
              simp only [inn]; rw [if_neg (by omega), eL, e0]
            have q4 : qw (1 + 2201 * n + 2202) (rich sz w (n - L) + gt w i) := qw_mono (qw_add q3 q2) (by omega)
            have ix : ((n : Int) - L).toNat = n - L := by omega
            have ix2 : (n : Int) - L = ((n - L : Nat) : Int) := by omega
            refine CodeJ.drawZ (.d 15 <| .qs [0, 1, 2, 3, 4, 5, 6, 7, 8, 9, 10, 11, 12, 13] <| .p 14 <| .b (.l 16 [2] <| .nil)) (by kernel_rfl) (by kernel_rfl) (by simp) ?_
            simp (disch := omega) [hit, lget_sz, lget_q, hL, l3, w64, ix, e0]
            refine ⟨⟨by omega, by omega⟩, by omega, by omega, callV (pAdd_ok _ _ (qok_of q3 (by omega)) (qok_of q2 (by omega))) (by simp) ?_⟩
            simp
            refine CodeJ.draw (.qs [0, 1, 2, 3, 4] <| .l 5 [] <| .qs [6] <| .nil) (by kernel_rfl) (by kernel_rfl) (by simp) ?_
            simp (disch := omega) [l1]
            by_cases hc : inn sz w (tb sz w n) n i < rich sz w (n - L) + gt w i
            · rw [if_pos hc] at ei
              have g := pCmp_ok _ _ (qok_of q4 (by omega)) (qok_of q1 (by omega))
              rw [cmp_gt hc] at g
              refine ⟨by omega, callS g (by simp) ?_⟩
              simp (disch := omega) [l1, l2, w64]
              exact ⟨by omega, i + 1, by omega, by omega, Le.syn (by simp (disch := omega) [leS, hC, w64, ei, ltL_rep])⟩
            · rw [if_neg hc] at ei
              have g := pCmp_ok _ _ (qok_of q4 (by omega)) (qok_of q1 (by omega))
              obtain ⟨v, hv, ev⟩ := cmp_le hc
              rw [ev] at g
              have hv' : ¬ 0 < v := by omega
              refine ⟨by omega, callS g (by simp) ?_⟩
              simp (disch := omega) [hv, hv', w64]
              exact ⟨i + 1, by omega, by omega, Le.syn (by simp (disch := omega) [leS, hC, w64, ei, ltL_rep])⟩
        · obtain rfl : i = sz.length := by omega
          simp
          exact ⟨n + 1, by omega, by omega, Le.syn (by simp (disch := omega) [leS, hC, w64, tb_succ])⟩
    · have hlt' : (R : Int) < n := by omega
      obtain rfl : n = R + 1 := by omega
      have l3 : lget ((tb sz w (R + 1)).map qsv) R = qsv (rich sz w R) := by rw [lget_q (by simp), tb_end]
      simp (disch := omega) [l3]
      exact fun h => by omega
end Go.Proofs
namespace Go.Cu
open Go Go.Sv Go.Pl Go.Proofs Go.Tb
theorem sbq {n : Nat} : nlL (List.replicate n zA) = List.replicate n (rsv 0) := by
  rw [nlL_rep]; rfl
theorem ltL_rep0 {n k : Nat} : SV.ltL n (List.replicate k (rsv 0)) = true := by
  induction k with
  | zero => rfl
  | succ k ih => rw [List.replicate_succ]; simp [SV.ltL, ih]
theorem lset_iv {l : List Int} {i : Nat} {v : Int} : lset (l.map iv) i (.val (.int .i64 v)) = (l.set i v).map iv := by rw [lset_eq, List.map_set]; rfl
theorem gt_set {l : List Int} {i : Nat} {v : Int} (h : i < l.length) : gt (l.set i v) i = v := by simp [gt, h]
theorem gt_set_ne {l : List Int} {i j : Nat} {v : Int} (h : i ≠ j) : gt (l.set i v) j = gt l j := by simp [gt, List.getElem?_set_ne h]
/-- where the last piece comes from -/
def Byk (sz : List Sz) (ys : List Int) (n : Nat) : Prop := ∀ m, m < n → gt ys m < 0 ∨ (0 ≤ gt ys m ∧ gt ys m < sz.length ∧ (gt sz (gt ys m).toNat).1 ≤ m)
end Go.Cu
namespace Go.Proofs
open Go.Sv Go Go.Tb Go.Pl Go.Cu
set_option maxRecDepth 10000 in
theorem qRichest_ok (R : Nat) (sz : List Sz) (hs : Stk R sz) (w : List Rat) (hw : Wd 2200 w) (hl : w.length = sz.length) : PureC Tryz.prog 74 [iv R, .ro (sz.map sizeV), .ro (w.map rsv)] (fun x => ∃ zs : List Int, x = .tup [.ro (zs.map iv), rsv (rich sz w R)]) := by
  have n1 := hs.n
  have r2 := hs.r2
  refine pure_enter Tryz.func74 rfl (by simp) (fun C hC => ?_)
  simp (disch := omega) [w64]
  refine ⟨by omega, by omega, ?_⟩
  refine CodeJ.le (Le.nl _) ?_
  simp [nlS, sbq, nlL_rep]
  refine CodeJ.loopL (ι := Nat × List Int) (fun ⟨n, ys⟩ => ⟨103, [(0, iv R), (1, .ro (sz.map sizeV)), (2, .ro (w.map rsv)), (7, .ptr 0 0 0), (8, .view 1 0 (R + 1)), (9, .view 2 0 (R + 1)), (23, iv (R + 1)), (24, iv n)], [some ⟨4, [rsv 0], false⟩, some ⟨4, (tb sz w n).map rsv ++ List.replicate (R + 1 - n) (rsv 0), false⟩, some ⟨1, ys.map iv, false⟩]⟩)
    (fun ⟨n, ys⟩ => n ≤ R + 1 ∧ ys.length = R + 1 ∧ Byk sz ys n) (fun ⟨n, ys⟩ => R + 1 - n) (0, List.replicate (R + 1) 0) ?_ ?_ ?_
  · exact ⟨by omega, by simp, fun m h => by omega⟩
  · simp [leS, hC, tb]
    rfl
  · rintro ⟨n, ys⟩ ⟨hn, hy, hb⟩
    by_cases hlt : n ≤ R
    · have hlt' : (n : Int) < (R : Int) + 1 := by omega
      have e : R + 1 - n = (R - n) + 1 := by omega
      have e0 : lget (ys.map iv) n = iv (gt ys n) := lget_iv (by omega)
      simp (disch := omega) [hlt, hlt', e, List.replicate_succ, e0, lset_iv, -List.map_set]
      refine ⟨by omega, ?_⟩
      have l1 : ∀ x r, lget ((tb sz w n).map rsv ++ x :: r) n = x := fun x r => lget_at _ (by simp)
      have l2 : ∀ x y r, lset ((tb sz w n).map rsv ++ x :: r) n y = (tb sz w n).map rsv ++ y :: r := fun x y r => lset_at _ (by simp)
      have l3 : ∀ m r, m < n → lget ((tb sz w n).map rsv ++ r) m = rsv (gt (tb sz w n) m) := fun m r h => by rw [lget_app_lt (by simpa using h), lget_r (by simpa using h)]
      refine CodeJ.loopL (ι := Nat × List Int) (fun ⟨i, ys⟩ => ⟨103, [(0, iv R), (1, .ro (sz.map sizeV)), (2, .ro (w.map rsv)), (7, .ptr 0 0 0), (8, .view 1 0 (R + 1)), (9, .view 2 0 (R + 1)), (10, iv n), (23, iv (R + 1)), (24, iv n), (30, .ro (sz.map sizeV)), (31, iv sz.length), (32, iv i)],
          [some ⟨4, [rsv 0], false⟩, some ⟨4, (tb sz w n).map rsv ++ rsv (inn sz w (tb sz w n) n i) :: List.replicate (R - n) (rsv 0), false⟩, some ⟨1, ys.map iv, false⟩]⟩)
        (fun ⟨i, ys⟩ => i ≤ sz.length ∧ ys.length = R + 1 ∧ Byk sz ys (n + 1)) (fun ⟨i, ys⟩ => sz.length - i) (0, ys.set n (-1)) ?_ ?_ ?_
      · refine ⟨by omega, by simpa using hy, fun m h => ?_⟩
        by_cases g : n = m
        · subst g; rw [gt_set (by omega)]; left; omega
        · rw [gt_set_ne g]; exact hb m (by omega)
      · simp [leS, hC, inn, ltL_rep0, -List.map_set]
      · rintro ⟨i, ys⟩ ⟨hi, hy, hb⟩
        by_cases hit : i < sz.length
        · have q1 := qw_inn hs hw hl n i hi
          have q2 := hw i (by omega)
          obtain ⟨s1, s2, -⟩ := hs.s i hit
          obtain ⟨L, hL⟩ : ∃ L : Nat, (gt sz i).1 = L := ⟨(gt sz i).1.toNat, by omega⟩
          simp (disch := omega) [hit, lget_sz, hL]
          refine ⟨fun c1 => ?_, fun c1 => ?_⟩
          · have e1 : inn sz w (tb sz w n) n (i + 1) = inn sz w (tb sz w n) n i := by simp only [inn]; rw [if_pos (by omega)]
            exact ⟨i + 1, ys, ⟨by omega, hy, hb⟩, by omega, Le.syn (by simp (disch := omega) [leS, hC, w64, e1, ltL_rep0])⟩
          · have q3 := qw_inn hs hw hl (n - L) sz.length (Nat.le_refl _)
            have e0 : gt (tb sz w n) (n - L) = rich sz w (n - L) := gt_tb sz w (by omega)
            have eL : (gt sz i).1.toNat = L := by omega
            have ei : inn sz w (tb sz w n) n (i + 1) = if inn sz w (tb sz w n) n i < rich sz w (n - L) + gt w i then rich sz w (n - L) + gt w i else inn sz w (tb sz w n) n i := by
              simp only [inn]; rw [if_neg (by omega), eL, e0]
            have q4 : qw (1 + 2201 * n + 2202) (rich sz w (n - L) + gt w i) := qw_mono (qw_add q3 q2) (by omega)
            have ix : ((n : Int) - L).toNat = n - L := by omega
            have e5 : lget (ys.map iv) n = iv (gt ys n) := lget_iv (by omega)
            refine CodeJ.drawZ (.d 12 <| .qs [0, 1, 2, 3, 4, 5, 6, 7, 8, 9, 10] <| .p 11 <| .b (.l 13 [4] <| .nil)) (by kernel_rfl) (by kernel_rfl) (by simp) ?_
            simp (disch := omega) [hit, lget_sz, lget_r, hL, l3, w64, ix, e0]
            refine ⟨⟨by omega, by omega⟩, by omega, by omega, callV (qAdd_ok _ _ (qok_of q3 (by omega)) (qok_of q2 (by omega))) (by simp) ?_⟩
            simp
            refine CodeJ.draw (.qs [0, 1, 2, 3, 4] <| .l 5 [] <| .qs [6] <| .nil) (by kernel_rfl) (by kernel_rfl) (by simp) ?_
            simp (disch := omega) [l1]
            by_cases hc : inn sz w (tb sz w n) n i < rich sz w (n - L) + gt w i
            · rw [if_pos hc] at ei
              have g := qCmp_ok _ _ (qok_of q4 (by omega)) (qok_of q1 (by omega))
              rw [cmp_gt hc] at g
              refine ⟨by omega, callS g (by simp) ?_⟩
              simp (disch := omega) [l1, l2, w64, e5, lset_iv, -List.map_set]
              refine ⟨by omega, by omega, i + 1, ys.set n i, ⟨by omega, by simpa using hy, fun m h => ?_⟩, by omega, Le.syn (by simp (disch := omega) [leS, hC, w64, ei, ltL_rep0, -List.map_set])⟩
              by_cases g : n = m
              · subst g; rw [gt_set (by omega)]; right; exact ⟨by omega, by omega, by rw [Int.toNat_natCast, hL]; omega⟩
              · rw [gt_set_ne g]; exact hb m h
            · rw [if_neg hc] at ei
              have g := qCmp_ok _ _ (qok_of q4 (by omega)) (qok_of q1 (by omega))
              obtain ⟨v, hv, ev⟩ := cmp_le hc
              rw [ev] at g
              have hv' : ¬ 0 < v := by omega
              refine ⟨by omega, callS g (by simp) ?_⟩
              simp (disch := omega) [hv, hv', w64]
              exact ⟨i + 1, ys, ⟨by omega, hy, hb⟩, by omega, Le.syn (by simp (disch := omega) [leS, hC, w64, ei, ltL_rep0])⟩
        · obtain rfl : i = sz.length := by omega
          simp
          exact ⟨n + 1, ys, ⟨by omega, hy, hb⟩, by omega, Le.syn (by simp (disch := omega) [leS, hC, w64, tb_succ, rich, ltL_rep0])⟩
    · have hlt' : ¬ (n : Int) < (R : Int) + 1 := by omega
      obtain rfl : n = R + 1 := by omega
      have l3 : lget ((tb sz w (R + 1)).map rsv) R = rsv (rich sz w R) := by rw [lget_r (by simp), tb_end]
      simp (disch := omega) [hlt', l3]
      refine ⟨by omega, ?_⟩
      refine CodeJ.loopL (ι := Nat × List Int) (fun ⟨n, zs⟩ => ⟨103, [(0, iv R), (1, .ro (sz.map sizeV)), (7, .ptr 0 0 0), (8, .view 1 0 (R + 1)), (9, .view 2 0 (R + 1)), (14, .view 3 0 sz.length), (15, iv n)], [some ⟨4, [rsv 0], false⟩, some ⟨4, (tb sz w (R + 1)).map rsv, false⟩, some ⟨1, ys.map iv, false⟩, some ⟨1, zs.map iv, false⟩]⟩)
        (fun ⟨n, zs⟩ => n ≤ R ∧ zs.length = sz.length) (fun ⟨n, zs⟩ => n) (R, List.replicate sz.length 0) ?_ ?_ ?_
      · exact ⟨by omega, by simp⟩
      · simp [leS, hC]
      · rintro ⟨n, zs⟩ ⟨hn, hz⟩
        have e5 : lget (ys.map iv) n = iv (gt ys n) := lget_iv (by omega)
        rcases hb n (by omega) with hneg | ⟨b1, b2, b3⟩
        · have hneg' : ¬ 0 ≤ gt ys n := by omega
          simp (disch := omega) [e5, hneg, hneg']
          refine ⟨by omega, by omega, ?_⟩
          refine CodeJ.draw (.qs [0, 1, 2, 3, 4, 5] <| .l 6 [0] <| .nil) (by kernel_rfl) (by kernel_rfl) (by simp) ?_
          simp (disch := omega) [l3]
          exact ⟨by omega, ⟨.tup [.ro (zs.map iv), rsv (rich sz w R)], by simp [← hz, List.take_of_length_le], zs, rfl⟩⟩
        · obtain ⟨k, hk⟩ : ∃ k : Nat, gt ys n = k := ⟨(gt ys n).toNat, by omega⟩
          rw [hk] at b1 b2 b3
          rw [Int.toNat_natCast] at b3
          have hks : k < sz.length := by omega
          obtain ⟨s1, s2, -⟩ := hs.s k hks
          obtain ⟨L, hL⟩ : ∃ L : Nat, (gt sz k).1 = L := ⟨(gt sz k).1.toNat, by omega⟩
          have e6 : lget (zs.map iv) k = iv (gt zs k) := lget_iv (by omega)
          simp (disch := omega) [e5, hk, e6, lget_sz, hL, w64, lset_iv, -List.map_set]
          exact ⟨by omega, by omega, by omega, by omega, by omega, by omega, by omega, by omega, by omega, by omega, by omega, n - L, zs.set k (IntKind.i64.wrap (gt zs k + 1)), ⟨by omega, by simpa using hz⟩, by omega, Le.syn (by simp (disch := omega) [leS, hC, w64, ltL_rep0, -List.map_set]; omega)⟩
end Go.Proofs
namespace Go.Cu
open Go Go.Sv Go.Pl Go.Proofs Go.Tb
structure Cut where
  pats : List (List Int)
  times : List Rat
  worth : List Rat
  rolls : Rat
def cutP (c : Cut) : SV := .agg ([.ro (c.pats.map ilv), .ro (c.times.map qsv), .ro (c.worth.map qsv)] ++ (qsv c.rolls).cells)
def cutQ (c : Cut) : SV := .agg ([.ro (c.pats.map ilv), .ro (c.times.map rsv), .ro (c.worth.map rsv)] ++ (rsv c.rolls).cells)
@[simp] theorem cutP_csz (c : Cut) : (cutP c).csz = 7 := rfl
@[simp] theorem cutP_isTup (c : Cut) : (cutP c).isTup = false := rfl
@[simp] theorem cutP_isAgg (c : Cut) : (cutP c).isAgg = true := rfl
@[simp] theorem cutP_one (c : Cut) : (cutP c).one = false := rfl
@[simp] theorem cutP_pure (c : Cut) : (cutP c).pure = true := rfl
@[simp] theorem cutP_lt (n : Nat) (c : Cut) : (cutP c).lt n = true := rfl
@[simp] theorem cutP_uses (n : Nat) (c : Cut) : (cutP c).uses n = false := rfl
@[simp] theorem cutP_ks (c : Cut) : (cutP c).ks = [] := rfl
@[simp] theorem cutP_0 (c : Cut) : lget (cutP c).cells 0 = .ro (c.pats.map ilv) := rfl
@[simp] theorem cutP_1 (c : Cut) : lget (cutP c).cells 1 = .ro (c.times.map qsv) := rfl
@[simp] theorem cutP_2 (c : Cut) : lget (cutP c).cells 2 = .ro (c.worth.map qsv) := rfl
@[simp] theorem cutP_3 (c : Cut) : SV.agg (((cutP c).cells.drop 3).take 4) = qsv c.rolls := rfl
@[simp] theorem cutQ_csz (c : Cut) : (cutQ c).csz = 7 := rfl
@[simp] theorem cutQ_isTup (c : Cut) : (cutQ c).isTup = false := rfl
@[simp] theorem cutQ_isAgg (c : Cut) : (cutQ c).isAgg = true := rfl
@[simp] theorem cutQ_one (c : Cut) : (cutQ c).one = false := rfl
@[simp] theorem cutQ_pure (c : Cut) : (cutQ c).pure = true := rfl
@[simp] theorem cutQ_lt (n : Nat) (c : Cut) : (cutQ c).lt n = true := rfl
@[simp] theorem cutQ_uses (n : Nat) (c : Cut) : (cutQ c).uses n = false := rfl
@[simp] theorem cutQ_ks (c : Cut) : (cutQ c).ks = [] := rfl
@[simp] theorem cutQ_0 (c : Cut) : lget (cutQ c).cells 0 = .ro (c.pats.map ilv) := rfl
@[simp] theorem cutQ_1 (c : Cut) : lget (cutQ c).cells 1 = .ro (c.times.map rsv) := rfl
@[simp] theorem cutQ_2 (c : Cut) : lget (cutQ c).cells 2 = .ro (c.worth.map rsv) := rfl
@[simp] theorem cutQ_3 (c : Cut) : SV.agg (((cutQ c).cells.drop 3).take 4) = rsv c.rolls := rfl
/-- how many of a size are cut -/
def got (c : Cut) (i : Nat) : Nat → Rat
  | 0 => 0
  | k + 1 => got c i k + gt c.times k * ((gt (gt c.pats k) i : Int) : Rat)
def tsum (c : Cut) : Nat → Rat
  | 0 => 0
  | k + 1 => tsum c k + gt c.times k
def wsum (sz : List Sz) (c : Cut) : Nat → Rat
  | 0 => 0
  | i + 1 => wsum sz c i + gt c.worth i * ((gt sz i).2 : Rat)
def ng (q : Rat) : Prop := q.num.sign < 0
structure CutOK (R : Nat) (sz : List Sz) (c : Cut) : Prop where
  ca : c.times.length = c.pats.length ∧ c.worth.length = sz.length
  cb : ∀ k, k < c.pats.length → ¬ ng (gt c.times k) ∧ (gt c.pats k).length = sz.length ∧ patB R sz (gt c.pats k) = true
  cc : ∀ i, i < sz.length → ¬ got c i c.pats.length < ((gt sz i).2 : Rat) ∧ ¬ ng (gt c.worth i)
  cd : ¬ (1 : Rat) < rich sz c.worth R
  ce : tsum c c.pats.length = c.rolls
  cf : wsum sz c sz.length = c.rolls
noncomputable def cutB (R : Nat) (sz : List Sz) (c : Cut) : Bool := @decide (CutOK R sz c) (Classical.propDecidable _)
theorem cutB_no {R : Nat} {sz : List Sz} {c : Cut} (h : ¬ CutOK R sz c) : cutB R sz c = false := by unfold cutB; simp [h]
theorem cutB_yes {R : Nat} {sz : List Sz} {c : Cut} (h : CutOK R sz c) : cutB R sz c = true := by unfold cutB; simp [h]
theorem qw_tsum {c : Cut} (hw : Wd 2200 c.times) (hl : c.times.length = c.pats.length) : ∀ k, k ≤ c.pats.length → qw (1 + 2201 * k) (tsum c k)
  | 0, _ => qw_zero _ (by omega)
  | k + 1, h => qw_mono (qw_add (qw_tsum hw hl k (by omega)) (hw k (by omega))) (by omega)
/-- a cutting that is not great -/
structure CutS (c : Cut) : Prop where
  np : c.pats.length ≤ 40
  nl : ∀ k, k < c.pats.length → (gt c.pats k).length ≤ 1048576
  nt : c.times.length ≤ 1048576
  nw : c.worth.length ≤ 1048576
  wt : Wd 2200 c.times
  ww : Wd 2200 c.worth
  wr : qw 2200 c.rolls
theorem patB_bnd {l : List Int} : ∀ {ss : List Sz} {left : Int}, patB left ss l = true → (∀ s ∈ ss, 1 ≤ s.1) → 0 ≤ left → l.length = ss.length → ∀ n ∈ l, 0 ≤ n ∧ n ≤ left := by
  induction l with
  | nil => intro ss left _ _ _ _ n hn; cases hn
  | cons x l ih =>
    intro ss left h hs h0 hl n hn
    cases ss with
    | nil => simp at hl
    | cons s ss =>
      simp only [patB] at h
      split at h
      · cases h
      · have s1 := hs s (by simp)
        obtain ⟨d0, d1⟩ := tdiv_in h0 s1
        obtain ⟨g1, g2⟩ := left_le (n := x) h0 s1 (by omega) (by omega)
        rcases List.mem_cons.1 hn with rfl | hn
        · omega
        · have := ih h (fun s hs' => hs s (by simp [hs'])) (by omega) (by simpa using hl) n hn
          omega
theorem pat_bnd {R : Nat} {sz : List Sz} (hs : Stk R sz) {l : List Int} (h : patB R sz l = true) (hl : l.length = sz.length) (i : Nat) (hi : i < sz.length) : 0 ≤ gt l i ∧ gt l i ≤ R :=
  patB_bnd h (fun s hm => by
    obtain ⟨j, hj, rfl⟩ := List.getElem_of_mem hm
    rw [gt_get hj]; exact (hs.s j hj).1) (by omega) hl _ (gt_mem (by omega))
theorem qw_nat {n : Int} (h : 0 ≤ n) (h' : n < 4294967296) : qw 1 (n : Rat) := qw_int (wid_le (by omega) (by omega)) (by omega)
theorem qw_got {R : Nat} {sz : List Sz} {c : Cut} (hs : Stk R sz) (hc : CutS c) (hl : c.times.length = c.pats.length)
    (hb : ∀ k', k' < c.pats.length → ¬ ng (gt c.times k') ∧ (gt c.pats k').length = sz.length ∧ patB R sz (gt c.pats k') = true) {i : Nat} (hi : i < sz.length) : ∀ k, k ≤ c.pats.length → qw (1 + 2202 * k) (got c i k)
  | 0, _ => qw_zero _ (by omega)
  | k + 1, h => by
    obtain ⟨-, b2, b3⟩ := hb k (by omega)
    obtain ⟨p1, p2⟩ := pat_bnd hs b3 b2 i hi
    have r2 := hs.r2
    exact qw_mono (qw_add (qw_got hs hc hl hb hi k (by omega)) (qw_mul (hc.wt k (by omega)) (qw_nat p1 (by omega)) (by omega))) (by omega)
theorem qw_wsum {R : Nat} {sz : List Sz} {c : Cut} (hs : Stk R sz) (hc : CutS c) (hl : c.worth.length = sz.length) : ∀ i, i ≤ sz.length → qw (1 + 2202 * i) (wsum sz c i)
  | 0, _ => qw_zero _ (by omega)
  | i + 1, h => by
    obtain ⟨-, -, z1, z2⟩ := hs.s i (by omega)
    exact qw_mono (qw_add (qw_wsum hs hc hl i (by omega)) (qw_mul (hc.ww i (by omega)) (qw_nat z1 (by omega)) (by omega))) (by omega)
theorem cmp_zero {x y : Rat} : (if x < y then (-1 : Int) else if y < x then 1 else 0) = 0 ↔ x = y := by
  constructor
  · intro h
    split at h
    · omega
    · split at h
      · omega
      · rename_i h1 h2
        exact Rat.le_antisymm (Rat.not_lt.1 h2) (Rat.not_lt.1 h1)
  · rintro rfl
    rw [if_neg (by exact Rat.not_lt.2 (Rat.le_refl)), if_neg (by exact Rat.not_lt.2 (Rat.le_refl))]
theorem cmp_lt0 {x y : Rat} : (if x < y then (-1 : Int) else if y < x then 1 else 0) < 0 ↔ x < y := by
  constructor
  · intro h
    split at h
    · assumption
    · split at h <;> omega
  · intro h; rw [if_pos h]; omega
theorem cmp_le0 {x y : Rat} : (if x < y then (-1 : Int) else if y < x then 1 else 0) ≤ 0 ↔ ¬ y < x := by
  constructor
  · intro h h'
    rw [cmp_gt h'] at h; omega
  · intro h
    obtain ⟨v, h1, h2⟩ := cmp_le h
    rw [h2]; exact h1
end Go.Cu
namespace Go.Proofs
open Go.Sv Go Go.Tb Go.Pl Go.Cu
set_option maxRecDepth 10000 in
theorem cutRight_ok (R : Nat) (sz : List Sz) (hs : Stk R sz) (c : Cut) (hc : CutS c) : PureF Tryz.prog 18 [iv R, .ro (sz.map sizeV), cutP c] (.val (.bool (cutB R sz c))) := by
  have n1 := hs.n
  have r2 := hs.r2
  have m1 := hc.np
  have m2 := hc.nt
  have m3 := hc.nw
  refine pure_enter Tryz.func18 rfl (by simp) (fun C hC => ?_)
  simp
  by_cases ha : c.times.length = c.pats.length ∧ c.worth.length = sz.length
  · obtain ⟨a1, a2⟩ := ha
    simp [a1, a2]
    refine callS (pInt_ok 0 (by omega) (by omega)) (by simp) ?_
    simp
    refine CodeJ.loopL (ι := Nat) (fun k => ⟨167, [(0, iv R), (1, .ro (sz.map sizeV)), (5, .ptr 0 0 0), (7, .ptr 1 0 0), (8, iv k)], [some ⟨7, [cutP c], false⟩, some ⟨4, [qsv (tsum c k)], false⟩]⟩)
      (fun k => k ≤ c.pats.length ∧ ∀ k', k' < k → ¬ ng (gt c.times k') ∧ (gt c.pats k').length = sz.length ∧ patB R sz (gt c.pats k') = true) (fun k => c.pats.length - k) 0 ?_ ?_ ?_
    · simp
    · simp [leS, hC, tsum]
    · rintro k ⟨hk, hb⟩
      by_cases hkt : k < c.pats.length
      · have q1 := hc.wt k (by omega)
        have q2 := qw_tsum hc.wt a1 k hk
        have g1 := pSign_ok (gt c.times k)
        have g2 := pattern_ok R sz hs (gt c.pats k) (by have := hc.nl k hkt; omega)
        simp (disch := omega) [hkt, lget_q, lget_ilv]
        refine ⟨by omega, callS g1 (by simp) ?_⟩
        simp (disch := omega) [hkt, lget_ilv]
        refine callS g2 (by simp) ?_
        by_cases hgd : ¬ ng (gt c.times k) ∧ (gt c.pats k).length = sz.length ∧ patB R sz (gt c.pats k) = true
        · obtain ⟨d1, d2, d3⟩ := hgd
          have d1' : ¬ (gt c.times k).num.sign < 0 := d1
          generalize (gt c.times k).num.sign = sg at g1 d1'
          have d1'' : 0 ≤ sg := by omega
          simp [d1', d1'', d2, d3]
          refine CodeJ.draw (.qs [0, 1, 2, 3, 4, 5] <| .l 6 [] <| .l 7 [1] <| .nil) (by kernel_rfl) (by kernel_rfl) (by simp) ?_
          simp (disch := omega) [lget_q]
          refine ⟨by omega, callS (pAdd_ok _ _ (qok_of q2 (by omega)) (qok_of q1 (by omega))) (by simp) ?_⟩
          simp (disch := omega) [w64]
          exact ⟨k + 1, ⟨by omega, step_lt hb ⟨d1, d2, d3⟩⟩, by omega, Le.syn (by simp (disch := omega) [leS, hC, w64, tsum])⟩
        · have hno : cutB R sz c = false := cutB_no (fun h => hgd (h.cb k hkt))
          rw [hno]
          have s2 : ng (gt c.times k) = ((gt c.times k).num.sign < 0) := rfl
          rw [s2] at hgd
          generalize (gt c.times k).num.sign = sg at g1 hgd
          by_cases s0 : sg < 0
          · simp [s0]
          · have s0' : 0 ≤ sg := by omega
            have db : (decide ((gt c.pats k).length = sz.length) && patB (↑R) sz (gt c.pats k)) = false := by
              cases hp : patB (↑R) sz (gt c.pats k) with
              | false => simp
              | true => simp only [Bool.and_true, decide_eq_false_iff_not]; exact fun h => hgd ⟨s0, h, hp⟩
            rw [db]
            simp [s0, s0']
      · obtain rfl : k = c.pats.length := by omega
        simp
        refine callS (pInt_ok 0 (by omega) (by omega)) (by simp) ?_
        simp
        refine CodeJ.loopL (ι := Nat) (fun i => ⟨167, [(0, iv R), (1, .ro (sz.map sizeV)), (5, .ptr 0 0 0), (7, .ptr 1 0 0), (11, .ptr 2 0 0), (12, iv i)], [some ⟨7, [cutP c], false⟩, some ⟨4, [qsv (tsum c c.pats.length)], false⟩, some ⟨4, [qsv (wsum sz c i)], false⟩]⟩)
          (fun i => i ≤ sz.length ∧ ∀ i', i' < i → ¬ got c i' c.pats.length < ((gt sz i').2 : Rat) ∧ ¬ ng (gt c.worth i')) (fun i => sz.length - i) 0 ?_ ?_ ?_
        · simp
        · simp [leS, hC, wsum]
        · rintro i ⟨hi, hcc⟩
          by_cases hit : i < sz.length
          · simp (disch := omega) [hit]
            refine callS (pInt_ok 0 (by omega) (by omega)) (by simp) ?_
            simp
            refine CodeJ.loopL (ι := Nat) (fun k => ⟨167, [(0, iv R), (1, .ro (sz.map sizeV)), (5, .ptr 0 0 0), (7, .ptr 1 0 0), (11, .ptr 2 0 0), (12, iv i), (13, .ptr 3 0 0), (14, iv k)], [some ⟨7, [cutP c], false⟩, some ⟨4, [qsv (tsum c c.pats.length)], false⟩, some ⟨4, [qsv (wsum sz c i)], false⟩, some ⟨4, [qsv (got c i k)], false⟩]⟩)
              (fun k => k ≤ c.pats.length) (fun k => c.pats.length - k) 0 ?_ ?_ ?_
            · simp
            · simp [leS, hC, got]
            · rintro k hk
              by_cases hkt : k < c.pats.length
              · obtain ⟨-, b2, b3⟩ := hb k hkt
                obtain ⟨p1, p2⟩ := pat_bnd hs b3 b2 i hit
                have q1 := hc.wt k (by omega)
                have q2 := qw_got hs hc a1 hb hit k hk
                have q3 : qw 1 ((gt (gt c.pats k) i : Int) : Rat) := qw_nat p1 (by omega)
                have q4 := qw_mul q1 q3 (by omega)
                simp (disch := omega) [hkt]
                refine CodeJ.drawZ (.d 15 <| .qs [0, 1, 2, 3, 4, 5, 6, 7, 8, 9, 10, 11, 12] <| .p 13 <| .p 14 <| .b (.l 16 [4] <| .nil)) (by kernel_rfl) (by kernel_rfl) (by simp) ?_
                simp (disch := omega) [hkt, hit, lget_q, lget_ilv, lget_iv]
                refine ⟨by omega, by omega, callV (pInt_ok _ (by omega) (by omega)) (by simp) ?_⟩
                simp
                refine callV (pMul_ok _ _ (qok_of q1 (by omega)) (qok_of q3 (by omega))) (by simp) ?_
                simp
                refine callS (pAdd_ok _ _ (qok_of q2 (by omega)) (qok_of q4 (by omega))) (by simp) ?_
                simp (disch := omega) [w64]
                exact ⟨k + 1, by omega, by omega, Le.syn (by simp (disch := omega) [leS, hC, w64, got])⟩
              · obtain rfl : k = c.pats.length := by omega
                have q1 := hc.ww i (by omega)
                have q2 := qw_got hs hc a1 hb hit _ (Nat.le_refl _)
                obtain ⟨-, -, z1, z2⟩ := hs.s i hit
                have q3 : qw 1 (((gt sz i).2 : Int) : Rat) := qw_nat z1 (by omega)
                have q4 := qw_mul q1 q3 (by omega)
                have q5 := qw_wsum hs hc a2 i hi
                have g1 := pCmp_ok (got c i c.pats.length) (((gt sz i).2 : Int) : Rat) (qok_of q2 (by omega)) (qok_of q3 (by omega))
                have g2 := pSign_ok (gt c.worth i)
                have i1 := cmp_lt0 (x := got c i c.pats.length) (y := (((gt sz i).2 : Int) : Rat))
                generalize (if got c i c.pats.length < (((gt sz i).2 : Int) : Rat) then (-1 : Int) else if (((gt sz i).2 : Int) : Rat) < got c i c.pats.length then 1 else 0) = v at g1 i1
                have i2 : ng (gt c.worth i) ↔ (gt c.worth i).num.sign < 0 := Iff.rfl
                generalize (gt c.worth i).num.sign = u at g2 i2
                simp
                refine CodeJ.draw (.qs [0, 1, 2, 3, 4, 5] <| .l 6 [] <| .l 7 [] <| .qs [8] <| .nil) (by kernel_rfl) (by kernel_rfl) (by simp) ?_
                simp (disch := omega) [hit, lget_sz]
                refine callS (pInt_ok _ (by omega) (by omega)) (by simp) ?_
                simp
                refine callS g1 (by simp) ?_
                simp (disch := omega) [hit, lget_q, a2]
                refine callS g2 (by simp) ?_
                by_cases hv : v < 0
                · have hno : cutB R sz c = false := cutB_no (fun h => (h.cc i hit).1 (i1.1 hv))
                  simp [hv, hno]
                · have hv' : 0 ≤ v := by omega
                  by_cases hu : u < 0
                  · have hno : cutB R sz c = false := cutB_no (fun h => (h.cc i hit).2 (i2.2 hu))
                    simp [hv, hv', hu, hno]
                  · have hu' : 0 ≤ u := by omega
                    simp [hv, hv', hu, hu']
                    refine CodeJ.drawZ (.d 12 <| .qs [0, 1, 2, 3, 4, 5, 6, 7, 8, 9] <| .p 10 <| .p 11 <| .b (.l 13 [4] <| .nil)) (by kernel_rfl) (by kernel_rfl) (by simp) ?_
                    simp (disch := omega) [hit, lget_q, lget_sz, a2]
                    refine callV (pInt_ok _ (by omega) (by omega)) (by simp) ?_
                    simp
                    refine callV (pMul_ok _ _ (qok_of q1 (by omega)) (qok_of q3 (by omega))) (by simp) ?_
                    simp
                    refine callS (pAdd_ok _ _ (qok_of q5 (by omega)) (qok_of q4 (by omega))) (by simp) ?_
                    simp (disch := omega) [w64]
                    exact ⟨i + 1, ⟨by omega, step_lt hcc ⟨fun h => hv (i1.2 h), fun h => hu (i2.1 h)⟩⟩, by omega, Le.syn (by simp (disch := omega) [leS, hC, w64, wsum])⟩
          · obtain rfl : i = sz.length := by omega
            simp
            have q1 := qw_tsum hc.wt a1 _ (Nat.le_refl _)
            have q2 := qw_wsum hs hc a2 _ (Nat.le_refl _)
            have q3 := qw_inn hs hc.ww a2 R sz.length (Nat.le_refl _)
            have g1 := pCmp_ok (tsum c c.pats.length) c.rolls (qok_of q1 (by omega)) (qok_of hc.wr (by omega))
            have g2 := pCmp_ok (wsum sz c sz.length) c.rolls (qok_of q2 (by omega)) (qok_of hc.wr (by omega))
            have g3 := rRichest_ok R sz hs c.worth hc.ww a2
            have g4 := pCmp_ok (rich sz c.worth R) ((1 : Int) : Rat) (qok_of q3 (by omega)) (qok_of (qw_nat (by omega) (by omega)) (by omega))
            have i1 := cmp_zero (x := tsum c c.pats.length) (y := c.rolls)
            have i2 := cmp_zero (x := wsum sz c sz.length) (y := c.rolls)
            have i4 := cmp_le0 (x := rich sz c.worth R) (y := ((1 : Int) : Rat))
            generalize (if tsum c c.pats.length < c.rolls then (-1 : Int) else if c.rolls < tsum c c.pats.length then 1 else 0) = v1 at g1 i1
            generalize (if wsum sz c sz.length < c.rolls then (-1 : Int) else if c.rolls < wsum sz c sz.length then 1 else 0) = v2 at g2 i2
            generalize (if rich sz c.worth R < ((1 : Int) : Rat) then (-1 : Int) else if ((1 : Int) : Rat) < rich sz c.worth R then 1 else 0) = v4 at g4 i4
            have hcut : cutB R sz c = (decide (v1 = 0) && decide (v2 = 0) && decide (v4 ≤ 0)) := by
              by_cases hall : v1 = 0 ∧ v2 = 0 ∧ v4 ≤ 0
              · obtain ⟨e1, e2, e4⟩ := hall
                rw [cutB_yes ⟨⟨a1, a2⟩, hb, hcc, i4.1 e4, i1.1 e1, i2.1 e2⟩]; simp [e1, e2, e4]
              · rw [cutB_no (fun h => hall ⟨i1.2 h.ce, i2.2 h.cf, i4.2 h.cd⟩)]
                by_cases e1 : v1 = 0
                · by_cases e2 : v2 = 0
                  · have : ¬ v4 ≤ 0 := fun e => hall ⟨e1, e2, e⟩
                    simp [e1, e2]; omega
                  · simp [e2]
                · simp [e1]
            rw [hcut]
            refine callS g1 (by simp) ?_
            simp
            refine callS g2 (by simp) ?_
            simp
            refine callS g3 (by simp) ?_
            simp
            refine CodeJ.draw (.qs [0] <| .l 1 [] <| .l 2 [] <| .qs [3] <| .nil) (by kernel_rfl) (by kernel_rfl) (by simp) ?_
            simp
            refine callS (pInt_ok 1 (by omega) (by omega)) (by simp) ?_
            simp
            refine callS g4 (by simp) ?_
            cases hv1 : decide (v1 = 0) <;> cases hv2 : decide (v2 = 0) <;> simp_all
  · have hno : cutB R sz c = false := cutB_no (fun h => ha h.ca)
    simp [hno]
    exact fun h1 h2 => absurd ⟨by omega, by omega⟩ ha
end Go.Proofs

