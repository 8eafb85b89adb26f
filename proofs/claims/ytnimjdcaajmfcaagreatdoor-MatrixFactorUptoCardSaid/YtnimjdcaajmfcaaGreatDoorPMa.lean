/- What the functions that read and write lists of numbers return. What the functions of package plain that read and write lists of numbers return. What the functions that measure, tell and compare tables of numbers return. What the functions that write tables of numbers as texts, and compare these, return. What optimalaw1.small and matrix.width return. A text of the prover's own. -/
import Derived.Test.YtnimjdcaajmfcaaGreatDoorPQo
import Derived.Test.YtnimjdcaajmfcaaGreatDoorPVf
namespace Go.Tb
open Go Go.Sv Go.Pl Go.Proofs
def strv (s : ByteArray) : SV := .val (.string s)
@[simp] theorem strv_val (s : ByteArray) : strv s = .val (.string s) := rfl
def tsv (l : List ByteArray) : SV := .ro (l.map strv)
@[simp] theorem tsv_val (l : List ByteArray) : tsv l = .ro (l.map strv) := rfl
def qlv (l : List Rat) : SV := .ro (l.map qsv)
@[simp] theorem qlv_val (l : List Rat) : qlv l = .ro (l.map qsv) := rfl
def rlv (l : List Rat) : SV := .ro (l.map rsv)
@[simp] theorem rlv_val (l : List Rat) : rlv l = .ro (l.map rsv) := rfl
def gt {α : Type} [Inhabited α] (l : List α) (i : Nat) : α := l.getD i default
theorem lget_m {α : Type} [Inhabited α] (f : α → SV) {l : List α} {i : Nat} (h : i < l.length) : lget (l.map f) i = f (gt l i) := by
  rw [lget_eq (by simpa using h)]; simp [gt, h]
theorem lget_str {l : List ByteArray} {i : Nat} (h : i < l.length) : lget (l.map strv) i = strv (gt l i) := lget_m _ h
theorem lget_tsv {l : List (List ByteArray)} {i : Nat} (h : i < l.length) : lget (l.map tsv) i = tsv (gt l i) := lget_m _ h
theorem lget_q {l : List Rat} {i : Nat} (h : i < l.length) : lget (l.map qsv) i = qsv (gt l i) := lget_m _ h
theorem lget_r {l : List Rat} {i : Nat} (h : i < l.length) : lget (l.map rsv) i = rsv (gt l i) := lget_m _ h
theorem lget_qlv {l : List (List Rat)} {i : Nat} (h : i < l.length) : lget (l.map qlv) i = qlv (gt l i) := lget_m _ h
theorem lget_rlv {l : List (List Rat)} {i : Nat} (h : i < l.length) : lget (l.map rlv) i = rlv (gt l i) := lget_m _ h
theorem gt_mem {α : Type} [Inhabited α] {l : List α} {i : Nat} (h : i < l.length) : gt l i ∈ l := by
  simp only [gt, List.getD_eq_getElem?_getD, List.getElem?_eq_getElem h, Option.getD_some]; exact List.getElem_mem h
theorem take_gt {α : Type} [Inhabited α] {l : List α} {i : Nat} (h : i < l.length) : l.take (i + 1) = l.take i ++ [gt l i] := by
  rw [List.take_succ_eq_append_getElem h]; simp [gt, h]
@[simp] theorem okE_str (l : List ByteArray) : okE 1 (l.map strv) = True := by cases l <;> simp [okE]
@[simp] theorem okE_tsv (l : List (List ByteArray)) : okE 1 (l.map tsv) = True := by cases l <;> simp [okE]
@[simp] theorem okE_q (l : List Rat) : okE 4 (l.map qsv) = True := by cases l <;> simp [okE]
@[simp] theorem okE_r (l : List Rat) : okE 4 (l.map rsv) = True := by cases l <;> simp [okE]
@[simp] theorem okE_qlv (l : List (List Rat)) : okE 1 (l.map qlv) = True := by cases l <;> simp [okE]
@[simp] theorem okE_rlv (l : List (List Rat)) : okE 1 (l.map rlv) = True := by cases l <;> simp [okE]
@[simp] theorem okE_qapp (l : List Rat) (r : List SV) : okE 4 (l.map qsv ++ r) = (l = [] → okE 4 r) := by cases l <;> simp [okE]
@[simp] theorem okE_rapp (l : List Rat) (r : List SV) : okE 4 (l.map rsv ++ r) = (l = [] → okE 4 r) := by cases l <;> simp [okE]
@[simp] theorem okE_qlvapp (l : List (List Rat)) (r : List SV) : okE 1 (l.map qlv ++ r) = (l = [] → okE 1 r) := by cases l <;> simp [okE]
@[simp] theorem okE_rlvapp (l : List (List Rat)) (r : List SV) : okE 1 (l.map rlv ++ r) = (l = [] → okE 1 r) := by cases l <;> simp [okE]
@[simp] theorem okE_strapp (l : List ByteArray) (r : List SV) : okE 1 (l.map strv ++ r) = (l = [] → okE 1 r) := by cases l <;> simp [okE]
@[simp] theorem okE_tsvapp (l : List (List ByteArray)) (r : List SV) : okE 1 (l.map tsv ++ r) = (l = [] → okE 1 r) := by cases l <;> simp [okE]
theorem sbL_app {k : Nat} {es : List SV} : ∀ {l r : List SV}, sbL k es (l ++ r) = sbL k es l ++ sbL k es r
  | [], r => rfl
  | x :: l, r => by simp [sbL_app]
/-- does each text say a number? -/
def num (s : ByteArray) : Rat := (qrd 300 s).1
def okN (l : List ByteArray) : Bool := l.all fun s => decide ((qrd 300 s).2.1 = 0)
def okT (t : List (List ByteArray)) : Bool := t.all okN
theorem okN_false {l : List ByteArray} {i : Nat} (h : i < l.length) (h' : ¬ (qrd 300 (gt l i)).2.1 = 0) : okN l = false := by
  cases hh : okN l with
  | false => rfl
  | true => exact absurd (of_decide_eq_true (List.all_eq_true.1 hh _ (gt_mem h))) h'
theorem okN_true {l : List ByteArray} (h : ∀ i, i < l.length → (qrd 300 (gt l i)).2.1 = 0) : okN l = true := by
  refine List.all_eq_true.2 fun s hs => decide_eq_true ?_
  obtain ⟨i, hi, rfl⟩ := List.getElem_of_mem hs
  have := h i hi
  simpa [gt, hi] using this
def nums (l : List ByteArray) : List Rat := l.map num
def tabs (t : List (List ByteArray)) : List (List Rat) := t.map nums
@[simp] theorem nums_len (l : List ByteArray) : (nums l).length = l.length := by simp [nums]
@[simp] theorem tabs_len (l : List (List ByteArray)) : (tabs l).length = l.length := by simp [tabs]
theorem nums_take {l : List ByteArray} {i : Nat} (h : i < l.length) : (nums l).take (i + 1) = (nums l).take i ++ [num (gt l i)] := by
  unfold nums; rw [← List.map_take, ← List.map_take, take_gt h]; simp
theorem tabs_take {l : List (List ByteArray)} {i : Nat} (h : i < l.length) : (tabs l).take (i + 1) = (tabs l).take i ++ [nums (gt l i)] := by
  unfold tabs; rw [← List.map_take, ← List.map_take, take_gt h]; simp
theorem okT_false {t : List (List ByteArray)} {i : Nat} (h : i < t.length) (h' : okN (gt t i) = false) : okT t = false := by
  cases hh : okT t with
  | false => rfl
  | true => rw [List.all_eq_true.1 hh _ (gt_mem h)] at h'; cases h'
theorem okT_true {t : List (List ByteArray)} (h : ∀ i, i < t.length → okN (gt t i) = true) : okT t = true := by
  refine List.all_eq_true.2 fun s hs => ?_
  obtain ⟨i, hi, rfl⟩ := List.getElem_of_mem hs
  have := h i hi
  simpa [gt, hi] using this
def numsP (l : List ByteArray) : SV := if okN l then .tup [.ro ((nums l).map qsv), .val (.bool true)] else .tup [.ro [], .val (.bool false)]
def numsQ (l : List ByteArray) : SV := if okN l then .tup [.ro ((nums l).map rsv), .val (.bool true)] else .tup [.ro [], .val (.bool false)]
def tabsP (t : List (List ByteArray)) : SV := if okT t then .tup [.ro ((tabs t).map qlv), .val (.bool true)] else .tup [.ro [], .val (.bool false)]
def tabsQ (t : List (List ByteArray)) : SV := if okT t then .tup [.ro ((tabs t).map rlv), .val (.bool true)] else .tup [.ro [], .val (.bool false)]
/-- a list of texts of a size that a machine bears -/
structure SmN (l : List ByteArray) : Prop where
  n : l.length ≤ 1048576
  s : ∀ s ∈ l, s.size ≤ 1048576
structure SmT (t : List (List ByteArray)) : Prop where
  n : t.length ≤ 1048576
  s : ∀ l ∈ t, SmN l
theorem step_lt {q : Nat → Prop} {i : Nat} (h : ∀ k, k < i → q k) (h' : q i) : ∀ k, k < i + 1 → q k := fun k hk => by
  rcases Nat.lt_or_ge k i with g | g
  · exact h k g
  · obtain rfl : k = i := by omega
    exact h'
end Go.Tb
namespace Go.Proofs
open Go.Sv Go Go.Tb Go.Pl
theorem pnum_ok (s : ByteArray) (hs : s.size ≤ 4611686018427387904) (hq : (qrd 300 s).2.1 = 0) : PureF Tryz.prog 66 [.val (.string s)] (.tup [qsv (num s), fsv 0 (-1)]) := by
  have := pQRead_ok s hs
  rwa [show outP (qrd 300 s) = .tup [qsv (num s), fsv 0 (-1)] by simp [outP, hq, num]] at this
set_option maxRecDepth 10000 in
theorem rNumbers_ok (l : List ByteArray) (h : SmN l) : PureF Tryz.prog 20 [.ro (l.map strv)] (numsP l) := by
  have hl := h.n
  refine pure_enter Tryz.func20 rfl (by simp) (fun C hC => ?_)
  simp
  refine CodeJ.nil 4 4 rfl ?_
  refine CodeJ.loopL (ι := Nat × List Rat) (fun ⟨i, xs⟩ => ⟨30, [(0, .ro (l.map strv)), (4, .view 0 0 xs.length), (5, .val (.int .i64 i))], [some ⟨4, xs.map qsv, false⟩]⟩)
    (fun ⟨i, xs⟩ => i ≤ l.length ∧ xs = (nums l).take i ∧ ∀ k, k < i → (qrd 300 (gt l k)).2.1 = 0) (fun ⟨i, xs⟩ => l.length - i) (0, []) ?_ ?_ ?_
  · simp
  · simp [leS, hC]
  · rintro ⟨i, xs⟩ ⟨hi, hx, hk⟩
    have hxl : xs.length = i := by rw [hx]; simp; omega
    by_cases hlt : i < l.length
    · have hx' := nums_take hlt
      rw [← hx] at hx'
      have hsz := h.s _ (gt_mem hlt)
      simp (disch := omega) [hlt, lget_str]
      by_cases hq : (qrd 300 (gt l i)).2.1 = 0
      · refine callS (pnum_ok (gt l i) (by omega) hq) (by simp) ?_
        simp (disch := omega) [fsv, w64]
        exact ⟨⟨by simp [hC], by omega⟩, i + 1, xs ++ [num (gt l i)], ⟨by omega, hx'.symm, step_lt hk hq⟩, by omega, Le.syn (by simp [leS, hC])⟩
      · have := okN_false hlt hq
        refine callS (pQRead_ok (gt l i) (by omega)) (by simp) ?_
        simp [outP, hq, fsv, numsP, this]
    · obtain rfl : i = l.length := by omega
      have := okN_true hk
      rw [List.take_of_length_le (by simp)] at hx
      simp [numsP, this, hx, List.take_of_length_le]
set_option maxRecDepth 10000 in
theorem rRows_ok (l : List (List ByteArray)) (h : SmT l) : PureF Tryz.prog 7 [.ro (l.map tsv)] (tabsP l) := by
  have hl := h.n
  refine pure_enter Tryz.func7 rfl (by simp) (fun C hC => ?_)
  simp
  refine CodeJ.nil 4 1 rfl ?_
  refine CodeJ.loopL (ι := Nat × List (List Rat)) (fun ⟨i, xs⟩ => ⟨29, [(0, .ro (l.map tsv)), (4, .view 0 0 xs.length), (5, .val (.int .i64 i))], [some ⟨1, xs.map qlv, false⟩]⟩)
    (fun ⟨i, xs⟩ => i ≤ l.length ∧ xs = (tabs l).take i ∧ ∀ k, k < i → okN (gt l k) = true) (fun ⟨i, xs⟩ => l.length - i) (0, []) ?_ ?_ ?_
  · simp
  · simp [leS, hC]
  · rintro ⟨i, xs⟩ ⟨hi, hx, hk⟩
    have hxl : xs.length = i := by rw [hx]; simp; omega
    by_cases hlt : i < l.length
    · have hx' := tabs_take hlt
      rw [← hx] at hx'
      have g := rNumbers_ok _ (h.s _ (gt_mem hlt))
      simp (disch := omega) [hlt, lget_tsv]
      refine callS g (by simp) ?_
      cases hq : okN (gt l i) with
      | true =>
        simp (disch := omega) [numsP, hq, w64]
        exact ⟨⟨by simp [hC], by omega⟩, i + 1, xs ++ [nums (gt l i)], ⟨by omega, hx'.symm, step_lt hk hq⟩, by omega, Le.syn (by simp [leS, hC])⟩
      | false =>
        have := okT_false hlt hq
        simp [numsP, hq, tabsP, this]
    · obtain rfl : i = l.length := by omega
      have := okT_true hk
      rw [List.take_of_length_le (by simp)] at hx
      simp [tabsP, this, hx, List.take_of_length_le]
end Go.Proofs
namespace Go.Proofs
open Go.Sv Go Go.Tb Go.Pl
theorem pNumber_ok (s : ByteArray) (hs : s.size ≤ 4611686018427387904) : PureF Tryz.prog 67 [.val (.string s)] (.tup [rsv (num s), .val (.bool (decide ((qrd 300 s).2.1 = 0)))]) := by
  refine pure_enter Tryz.func67 rfl (by simp) (fun C hC => ?_)
  simp
  refine callS (qRead_ok s hs) (by simp) ?_
  simp [outQ]
  refine CodeJ.draw (.qs [0, 1, 2] <| .l 3 [0] <| .qs [4] <| .nil) (by kernel_rfl) (by kernel_rfl) (by simp) ?_
  rw [show (qrd 300 s).1 = num s from rfl]
  by_cases hq : (qrd 300 s).2.1 = 0
  · simp [hq, errSV]
  · simp [hq, errSV]
set_option maxRecDepth 10000 in
theorem pNumbers_ok (l : List ByteArray) (h : SmN l) : PureF Tryz.prog 21 [.ro (l.map strv)] (numsQ l) := by
  have hl := h.n
  refine pure_enter Tryz.func21 rfl (by simp) (fun C hC => ?_)
  simp
  refine CodeJ.nil 4 4 rfl ?_
  refine CodeJ.loopL (ι := Nat × List Rat) (fun ⟨i, xs⟩ => ⟨28, [(4, .view 0 0 xs.length), (9, .ro (l.map strv)), (10, .val (.int .i64 l.length)), (11, .val (.int .i64 i))], [some ⟨4, xs.map rsv, false⟩]⟩)
    (fun ⟨i, xs⟩ => i ≤ l.length ∧ xs = (nums l).take i ∧ ∀ k, k < i → (qrd 300 (gt l k)).2.1 = 0) (fun ⟨i, xs⟩ => l.length - i) (0, []) ?_ ?_ ?_
  · simp
  · simp [leS, hC]
  · rintro ⟨i, xs⟩ ⟨hi, hx, hk⟩
    have hxl : xs.length = i := by rw [hx]; simp; omega
    by_cases hlt : i < l.length
    · have hx' := nums_take hlt
      rw [← hx] at hx'
      have hsz := h.s _ (gt_mem hlt)
      simp (disch := omega) [hlt, lget_str]
      refine callS (pNumber_ok (gt l i) (by omega)) (by simp) ?_
      by_cases hq : (qrd 300 (gt l i)).2.1 = 0
      · simp (disch := omega) [hq, w64]
        exact ⟨⟨by simp [hC], by omega⟩, i + 1, xs ++ [num (gt l i)], ⟨by omega, hx'.symm, step_lt hk hq⟩, by omega, Le.syn (by simp [leS, hC])⟩
      · have := okN_false hlt hq
        simp [hq, numsQ, this]
    · obtain rfl : i = l.length := by omega
      have := okN_true hk
      rw [List.take_of_length_le (by simp)] at hx
      simp [numsQ, this, hx, List.take_of_length_le]
set_option maxRecDepth 10000 in
theorem pRows_ok (l : List (List ByteArray)) (h : SmT l) : PureF Tryz.prog 9 [.ro (l.map tsv)] (tabsQ l) := by
  have hl := h.n
  refine pure_enter Tryz.func9 rfl (by simp) (fun C hC => ?_)
  simp
  refine CodeJ.nil 4 1 rfl ?_
  refine CodeJ.loopL (ι := Nat × List (List Rat)) (fun ⟨i, xs⟩ => ⟨28, [(4, .view 0 0 xs.length), (9, .ro (l.map tsv)), (10, .val (.int .i64 l.length)), (11, .val (.int .i64 i))], [some ⟨1, xs.map rlv, false⟩]⟩)
    (fun ⟨i, xs⟩ => i ≤ l.length ∧ xs = (tabs l).take i ∧ ∀ k, k < i → okN (gt l k) = true) (fun ⟨i, xs⟩ => l.length - i) (0, []) ?_ ?_ ?_
  · simp
  · simp [leS, hC]
  · rintro ⟨i, xs⟩ ⟨hi, hx, hk⟩
    have hxl : xs.length = i := by rw [hx]; simp; omega
    by_cases hlt : i < l.length
    · have hx' := tabs_take hlt
      rw [← hx] at hx'
      have g := pNumbers_ok _ (h.s _ (gt_mem hlt))
      simp (disch := omega) [hlt, lget_tsv]
      refine callS g (by simp) ?_
      cases hq : okN (gt l i) with
      | true =>
        simp (disch := omega) [numsQ, hq, w64]
        exact ⟨⟨by simp [hC], by omega⟩, i + 1, xs ++ [nums (gt l i)], ⟨by omega, hx'.symm, step_lt hk hq⟩, by omega, Le.syn (by simp [leS, hC])⟩
      | false =>
        have := okT_false hlt hq
        simp [numsQ, hq, tabsQ, this]
    · obtain rfl : i = l.length := by omega
      have := okT_true hk
      rw [List.take_of_length_le (by simp)] at hx
      simp [tabsQ, this, hx, List.take_of_length_le]
end Go.Proofs
namespace Go.Tb
open Go Go.Sv Go.Pl Go.Proofs
/-- the first row's width -/
def wide {α : Type} (a : List (List α)) : Nat := (gt a 0).length
theorem wide_def {α : Type} (a : List (List α)) : wide a = (gt a 0).length := rfl
/-- all rows are as wide as the first one, and none is too great -/
def isTab {α : Type} (a : List (List α)) : Bool := decide (a.length ≤ 40) && a.all fun r => decide (r.length = wide a ∧ r.length ≤ 40)
theorem isTab_false {α : Type} {a : List (List α)} {i : Nat} (h : i < a.length) (h' : ¬ ((gt a i).length = wide a ∧ (gt a i).length ≤ 40)) : isTab a = false := by
  cases hh : isTab a with
  | false => rfl
  | true =>
    simp only [isTab, Bool.and_eq_true] at hh
    exact absurd (of_decide_eq_true (List.all_eq_true.1 hh.2 _ (gt_mem h))) h'
theorem isTab_true {α : Type} {a : List (List α)} (h0 : a.length ≤ 40) (h : ∀ i, i < a.length → (gt a i).length = wide a ∧ (gt a i).length ≤ 40) : isTab a = true := by
  simp only [isTab, Bool.and_eq_true, decide_eq_true_eq]
  refine ⟨h0, List.all_eq_true.2 fun s hs => decide_eq_true ?_⟩
  obtain ⟨i, hi, rfl⟩ := List.getElem_of_mem hs
  have := h i hi
  simpa [gt, hi] using this
end Go.Tb
namespace Go.Proofs
open Go.Sv Go Go.Tb Go.Pl
theorem rWide_ok (a : List (List Rat)) (h : a.length ≤ 1048576) : PureF Tryz.prog 44 [.ro (a.map qlv)] (.val (.int .i64 (wide a : Nat))) := by
  refine pure_enter Tryz.func44 rfl (by simp) (fun C hC => ?_)
  simp
  by_cases h0 : a.length = 0
  · have : a = [] := List.length_eq_zero_iff.1 h0
    subst this
    simp [wide, gt]
    rfl
  · have e : lget (a.map qlv) 0 = qlv (gt a 0) := lget_qlv (by omega)
    simp [h0, e]
    exact ⟨fun he => absurd (by rw [he]; rfl) h0, fun _ => ⟨by omega, rfl⟩⟩
set_option maxRecDepth 10000 in
theorem rIsTable_ok (a : List (List Rat)) (h : a.length ≤ 1048576) (hb : ∀ r ∈ a, r.length ≤ 1048576) : PureF Tryz.prog 43 [.ro (a.map qlv)] (.val (.bool (isTab a))) := by
  refine pure_enter Tryz.func43 rfl (by simp) (fun C hC => ?_)
  simp
  refine ⟨fun h40 => ?_, fun h40 => ?_⟩
  · have : isTab a = false := by simp [isTab]; omega
    simp [this]
  · refine CodeJ.loop (ι := Nat) (fun i => ⟨31, [(0, .ro (a.map qlv)), (3, .val (.int .i64 i))], []⟩)
      (fun i => i ≤ a.length ∧ ∀ k, k < i → (gt a k).length = wide a ∧ (gt a k).length ≤ 40) (fun i => a.length - i) 0 ?_ ?_ ?_
    · simp
    · simp [leS, hC]
    · rintro i ⟨hi, hk⟩
      by_cases hlt : i < a.length
      · have e : lget (a.map qlv) 0 = qlv (gt a 0) := lget_qlv (by omega)
        have b0 := hb _ (gt_mem (l := a) (i := 0) (by omega))
        have b1 := hb _ (gt_mem hlt)
        simp (disch := omega) [hlt]
        refine CodeJ.draw (.qs [0, 1, 2, 3, 4, 5, 6, 7, 8, 9, 10, 11, 12, 13, 14, 15, 16, 17] <| .nil) (by kernel_rfl) (by kernel_rfl) (by simp) ?_
        simp (disch := omega) [hlt, lget_qlv, e, w64]
        refine ⟨by omega, fun c1 => ⟨fun c2 => isTab_false hlt (fun h => by omega), fun c2 => ⟨i + 1, ⟨by omega, step_lt hk ⟨?_, by omega⟩⟩, by omega, by simp (disch := omega) [leS, hC, w64]⟩⟩, fun c1 => isTab_false hlt (fun h => c1 (by rw [h.1]; rfl))⟩
        have : (gt a i).length = (gt a 0).length := by omega
        rw [this]; rfl
      · obtain rfl : i = a.length := by omega
        have := isTab_true (by omega) hk
        simp [this]
end Go.Proofs
namespace Go.Tb
open Go Go.Sv Go.Pl Go.Proofs
def txts (l : List Rat) : List ByteArray := l.map qtxt
def rtxts (a : List (List Rat)) : List (List ByteArray) := a.map txts
@[simp] theorem txts_len (l : List Rat) : (txts l).length = l.length := by simp [txts]
@[simp] theorem rtxts_len (a : List (List Rat)) : (rtxts a).length = a.length := by simp [rtxts]
theorem txts_take {l : List Rat} {i : Nat} (h : i < l.length) : (txts l).take (i + 1) = (txts l).take i ++ [qtxt (gt l i)] := by
  unfold txts; rw [← List.map_take, ← List.map_take, take_gt h]; simp
/-- numbers that the program bears -/
structure OKl (l : List Rat) : Prop where
  n : l.length ≤ 1048576
  q : ∀ q ∈ l, qok q
structure OKa (a : List (List Rat)) : Prop where
  n : a.length ≤ 1048576
  r : ∀ r ∈ a, OKl r
end Go.Tb
namespace Go.Proofs
open Go.Sv Go Go.Tb Go.Pl
set_option maxRecDepth 10000 in
theorem rTold_ok (l : List Rat) (h : OKl l) : PureF Tryz.prog 69 [.ro (l.map qsv)] (.ro ((txts l).map strv)) := by
  have hl := h.n
  refine pure_enter Tryz.func69 rfl (by simp) (fun C hC => ?_)
  simp
  refine CodeJ.nil 3 1 rfl ?_
  refine CodeJ.loopL (ι := Nat × List ByteArray) (fun ⟨i, xs⟩ => ⟨22, [(0, .ro (l.map qsv)), (3, .view 0 0 xs.length), (4, .val (.int .i64 i))], [some ⟨1, xs.map strv, false⟩]⟩)
    (fun ⟨i, xs⟩ => i ≤ l.length ∧ xs = (txts l).take i) (fun ⟨i, xs⟩ => l.length - i) (0, []) ?_ ?_ ?_
  · simp
  · simp [leS, hC]
  · rintro ⟨i, xs⟩ ⟨hi, hx⟩
    have hxl : xs.length = i := by rw [hx]; simp; omega
    by_cases hlt : i < l.length
    · have hx' := txts_take hlt
      rw [← hx] at hx'
      have hq := h.q _ (gt_mem hlt)
      simp (disch := omega) [hlt, lget_q]
      refine callS (pText_ok (gt l i) hq) (by simp) ?_
      simp (disch := omega) [w64]
      exact ⟨⟨by simp [hC], by omega⟩, i + 1, xs ++ [qtxt (gt l i)], ⟨by omega, hx'.symm⟩, by omega, Le.syn (by simp [leS, hC])⟩
    · obtain rfl : i = l.length := by omega
      rw [List.take_of_length_le (by simp)] at hx
      simp [hx, List.take_of_length_le]
set_option maxRecDepth 10000 in
theorem pTexts_ok (l : List Rat) (h : OKl l) : PureF Tryz.prog 61 [.ro (l.map rsv)] (.ro ((txts l).map strv)) := by
  have hl := h.n
  refine pure_enter Tryz.func61 rfl (by simp) (fun C hC => ?_)
  simp
  refine CodeJ.nil 3 1 rfl ?_
  refine CodeJ.loopL (ι := Nat × List ByteArray) (fun ⟨i, xs⟩ => ⟨19, [(3, .view 0 0 xs.length), (6, .ro (l.map rsv)), (7, .val (.int .i64 l.length)), (8, .val (.int .i64 i))], [some ⟨1, xs.map strv, false⟩]⟩)
    (fun ⟨i, xs⟩ => i ≤ l.length ∧ xs = (txts l).take i) (fun ⟨i, xs⟩ => l.length - i) (0, []) ?_ ?_ ?_
  · simp
  · simp [leS, hC]
  · rintro ⟨i, xs⟩ ⟨hi, hx⟩
    have hxl : xs.length = i := by rw [hx]; simp; omega
    by_cases hlt : i < l.length
    · have hx' := txts_take hlt
      rw [← hx] at hx'
      have hq := h.q _ (gt_mem hlt)
      simp (disch := omega) [hlt, lget_r]
      refine callS (qText_ok (gt l i) hq) (by simp) ?_
      simp (disch := omega) [w64]
      exact ⟨⟨by simp [hC], by omega⟩, i + 1, xs ++ [qtxt (gt l i)], ⟨by omega, hx'.symm⟩, by omega, Le.syn (by simp [leS, hC])⟩
    · obtain rfl : i = l.length := by omega
      rw [List.take_of_length_le (by simp)] at hx
      simp [hx, List.take_of_length_le]
end Go.Proofs
namespace Go.Tb
open Go Go.Sv Go.Pl Go.Proofs
/-- a table that is not great -/
structure Few (t : List (List ByteArray)) : Prop where
  n : t.length ≤ 6
  r : ∀ i, i < t.length → (gt t i).length ≤ 6 ∧ ∀ k, k < (gt t i).length → (gt (gt t i) k).size ≤ 30
end Go.Tb
namespace Go.Proofs
open Go.Sv Go Go.Tb Go.Pl
theorem fin_b {M : Tab} {Φ : SV → Prop} {b : Bool} (h : Φ (.val (.bool b))) : Sv.fin M (.val (.bool b)) Φ := ⟨_, by simp, h⟩
set_option maxRecDepth 10000 in
theorem few6_ok (t : List (List ByteArray)) (h : SmT t) : PureC Tryz.prog 8 [.ro (t.map tsv)] (fun x => ∃ b : Bool, x = .val (.bool b) ∧ (b = true → Tb.Few t)) := by
  have hl := h.n
  refine pure_enter Tryz.func8 rfl (by simp) (fun C hC => ?_)
  simp
  refine ⟨fun c => fin_b (.inl rfl), fun c => ?_⟩
  refine CodeJ.loop (ι := Nat) (fun i => ⟨38, [(0, .ro (t.map tsv)), (3, .val (.int .i64 i))], []⟩)
    (fun i => i ≤ t.length ∧ ∀ k, k < i → (gt t k).length ≤ 6 ∧ ∀ j, j < (gt t k).length → (gt (gt t k) j).size ≤ 30) (fun i => t.length - i) 0 ?_ ?_ ?_
  · simp
  · simp [leS, hC]
  · rintro i ⟨hi, hk⟩
    by_cases hlt : i < t.length
    · have hn := (h.s _ (gt_mem hlt)).n
      simp (disch := omega) [hlt, lget_tsv]
      refine ⟨fun d => fin_b (.inl rfl), fun d => ?_⟩
      refine CodeJ.loop (ι := Nat) (fun j => ⟨38, [(0, .ro (t.map tsv)), (3, .val (.int .i64 i)), (4, .val (.int .i64 j))], []⟩)
        (fun j => j ≤ (gt t i).length ∧ ∀ k, k < j → (gt (gt t i) k).size ≤ 30) (fun j => (gt t i).length - j) 0 ?_ ?_ ?_
      · simp
      · simp [leS, hC]
      · rintro j ⟨hj, hm⟩
        by_cases hjt : j < (gt t i).length
        · have hs := (h.s _ (gt_mem hlt)).s _ (gt_mem hjt)
          simp (disch := omega) [hlt, hjt, lget_tsv, lget_str, w64]
          exact ⟨fun q => fin_b (.inl rfl), fun q => ⟨j + 1, ⟨by omega, step_lt hm (by omega)⟩, by omega, by simp (disch := omega) [leS, hC, w64]⟩⟩
        · obtain rfl : j = (gt t i).length := by omega
          simp (disch := omega) [hlt, lget_tsv, w64]
          exact ⟨i + 1, ⟨by omega, step_lt hk ⟨by omega, hm⟩⟩, by omega, by simp (disch := omega) [leS, hC, w64]⟩
    · obtain rfl : i = t.length := by omega
      simp
      exact fin_b (.inr ⟨rfl, by omega, hk⟩)
/-- what width tells -/
def rect (a : List (List Rat)) : Bool := a.all fun r => decide (r.length = wide a)
theorem rect_false {a : List (List Rat)} {i : Nat} (h : i < a.length) (h' : ¬ (gt a i).length = wide a) : rect a = false := by
  cases hh : rect a with
  | false => rfl
  | true => exact absurd (of_decide_eq_true (List.all_eq_true.1 hh _ (gt_mem h))) h'
theorem rect_true {a : List (List Rat)} (h : ∀ i, i < a.length → (gt a i).length = wide a) : rect a = true := by
  refine List.all_eq_true.2 fun s hs => decide_eq_true ?_
  obtain ⟨i, hi, rfl⟩ := List.getElem_of_mem hs
  have := h i hi
  simpa [gt, hi] using this
theorem isTab_rect (a : List (List Rat)) (h0 : a ≠ []) : isTab a = (rect a && decide (a.length ≤ 40 ∧ wide a ≤ 40)) := by
  have hp : 0 < a.length := by cases a <;> simp_all
  by_cases h : ∃ i, i < a.length ∧ ¬ (gt a i).length = wide a
  · obtain ⟨i, hi, hn⟩ := h
    rw [rect_false hi hn, isTab_false hi (fun h => hn h.1)]; rfl
  · have hall : ∀ i, i < a.length → (gt a i).length = wide a := fun i hi => Classical.byContradiction fun hn => h ⟨i, hi, hn⟩
    rw [rect_true hall, Bool.true_and]
    by_cases h40 : a.length ≤ 40
    · by_cases hw : wide a ≤ 40
      · rw [isTab_true h40 (fun i hi => ⟨hall i hi, by rw [hall i hi]; exact hw⟩)]; simp [h40, hw]
      · rw [isTab_false hp (fun h => hw h.2)]; simp [hw]
    · simp [isTab, h40]
def widthQ (a : List (List Rat)) : SV :=
  if a = [] then .tup [.val (.int .i64 0), .val (.bool true)]
  else if rect a then .tup [.val (.int .i64 (wide a : Nat)), .val (.bool (decide (a.length ≤ 40 ∧ wide a ≤ 40)))]
  else .tup [.val (.int .i64 0), .val (.bool false)]
set_option maxRecDepth 10000 in
theorem width_ok (a : List (List Rat)) (h : a.length ≤ 1048576) (hb : ∀ r ∈ a, r.length ≤ 1048576) : PureF Tryz.prog 38 [.ro (a.map rlv)] (widthQ a) := by
  refine pure_enter Tryz.func38 rfl (by simp) (fun C hC => ?_)
  simp
  refine ⟨fun h0 => by simp [widthQ, h0], fun h0 => ?_⟩
  have hp : 0 < a.length := by cases a <;> simp_all
  have e : lget (a.map rlv) 0 = rlv (gt a 0) := lget_rlv (by omega)
  have b0 := hb _ (gt_mem (l := a) (i := 0) (by omega))
  refine CodeJ.loop (ι := Nat) (fun i => ⟨37, [(0, .ro (a.map rlv)), (9, .ro (a.map rlv)), (10, .val (.int .i64 a.length)), (11, .val (.int .i64 i))], []⟩)
    (fun i => i ≤ a.length ∧ ∀ k, k < i → (gt a k).length = wide a) (fun i => a.length - i) 0 ?_ ?_ ?_
  · simp
  · simp [leS, hC]
  · rintro i ⟨hi, hk⟩
    by_cases hlt : i < a.length
    · have b1 := hb _ (gt_mem hlt)
      simp (disch := omega) [hlt, lget_rlv, e, w64]
      refine ⟨by omega, fun c => ?_, fun c => ⟨i + 1, ⟨by omega, step_lt hk ?_⟩, by omega, by simp (disch := omega) [leS, hC, w64]⟩⟩
      · have : rect a = false := rect_false hlt (fun h => c (by rw [h]; rfl))
        simp [widthQ, h0, this]
      · have : (gt a i).length = (gt a 0).length := by omega
        exact this
    · obtain rfl : i = a.length := by omega
      have hr := rect_true hk
      simp
      refine CodeJ.draw (.qs [0, 1, 2, 3, 4, 5, 6, 7, 8, 9, 10, 11, 12, 13, 14, 15] <| .nil) (by kernel_rfl) (by kernel_rfl) (by simp) ?_
      simp (disch := omega) [e, w64]
      refine ⟨by omega, fun c => ⟨by omega, ?_⟩, fun c => ?_⟩
      · have c' : a.length ≤ 40 := by omega
        simp [widthQ, h0, hr, wide_def, c']
        omega
      · have c' : ¬ a.length ≤ 40 := by omega
        simp [widthQ, h0, hr, wide_def, c']
end Go.Proofs

