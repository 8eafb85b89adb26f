/- What the functions that read and write lists of numbers return. What the functions of package plain that read and write lists of numbers return. What the functions that measure, tell and compare tables of numbers return. What the functions that write tables of numbers as texts, and compare these, return. What optimalaw1.small and matrix.width return. A text of the prover's own. -/
import Derived.Test.YtilpfpephcngbaaGreatDoorOQo
import Derived.Test.YtilpfpephcngbaaGreatDoorOVf
namespace Go.Tb
open Go Go.Sv Go.Pl Go.Proofs
def strv (s : ByteArray) : SV := .val (.string s)
@[simp] theorem strv_val (s : ByteArray) : strv s = .val (.string s) := rfl
def tsv (l : List ByteArray) : SV := .ro (l.map strv)
@[simp] theorem tsv_val (l : List ByteArray) : tsv l = .ro (l.map strv) := rfl
def qlv (l : List Rat) : SV := .ro (l.map qsv)
@[simp] theorem qlv_val (l : List Rat) : qlv l = .ro (l.map qsv) := rfl
def rlv (l : List Rat) : SV := .ro (l.map rsv)
@[simp] theorem rlv_val (l : List Rat) : rlv l = .ro (l.map rsv) := rfl
def gt {α : Type} [Inhabited α] (l : List α) (i : Nat) : α := l.getD i default
theorem lget_m {α : Type} [Inhabited α] (f : α → SV) {l : List α} {i : Nat} (h : i < l.length) : lget (l.map f) i = f (gt l i) := by
  rw [lget_eq (by simpa using h)]; simp [gt, h]
theorem lget_str {l : List ByteArray} {i : Nat} (h : i < l.length) : lget (l.map strv) i = strv (gt l i) := lget_m _ h
theorem lget_q {l : List Rat} {i : Nat} (h : i < l.length) : lget (l.map qsv) i = qsv (gt l i) := lget_m _ h
theorem lget_r {l : List Rat} {i : Nat} (h : i < l.length) : lget (l.map rsv) i = rsv (gt l i) := lget_m _ h
theorem gt_mem {α : Type} [Inhabited α] {l : List α} {i : Nat} (h : i < l.length) : gt l i ∈ l := by
  simp only [gt, List.getD_eq_getElem?_getD, List.getElem?_eq_getElem h, Option.getD_some]; exact List.getElem_mem h
theorem take_gt {α : Type} [Inhabited α] {l : List α} {i : Nat} (h : i < l.length) : l.take (i + 1) = l.take i ++ [gt l i] := by
  rw [List.take_succ_eq_append_getElem h]; simp [gt, h]
@[simp] theorem okE_str (l : List ByteArray) : okE 1 (l.map strv) = True := by cases l <;> simp [okE]
@[simp] theorem okE_tsv (l : List (List ByteArray)) : okE 1 (l.map tsv) = True := by cases l <;> simp [okE]
@[simp] theorem okE_q (l : List Rat) : okE 4 (l.map qsv) = True := by cases l <;> simp [okE]
@[simp] theorem okE_r (l : List Rat) : okE 4 (l.map rsv) = True := by cases l <;> simp [okE]
@[simp] theorem okE_qlv (l : List (List Rat)) : okE 1 (l.map qlv) = True := by cases l <;> simp [okE]
@[simp] theorem okE_rlv (l : List (List Rat)) : okE 1 (l.map rlv) = True := by cases l <;> simp [okE]
@[simp] theorem okE_qapp (l : List Rat) (r : List SV) : okE 4 (l.map qsv ++ r) = (l = [] → okE 4 r) := by cases l <;> simp [okE]
@[simp] theorem okE_rapp (l : List Rat) (r : List SV) : okE 4 (l.map rsv ++ r) = (l = [] → okE 4 r) := by cases l <;> simp [okE]
@[simp] theorem okE_qlvapp (l : List (List Rat)) (r : List SV) : okE 1 (l.map qlv ++ r) = (l = [] → okE 1 r) := by cases l <;> simp [okE]
@[simp] theorem okE_rlvapp (l : List (List Rat)) (r : List SV) : okE 1 (l.map rlv ++ r) = (l = [] → okE 1 r) := by cases l <;> simp [okE]
@[simp] theorem okE_strapp (l : List ByteArray) (r : List SV) : okE 1 (l.map strv ++ r) = (l = [] → okE 1 r) := by cases l <;> simp [okE]
@[simp] theorem okE_tsvapp (l : List (List ByteArray)) (r : List SV) : okE 1 (l.map tsv ++ r) = (l = [] → okE 1 r) := by cases l <;> simp [okE]
/-- does each text say a number? -/
def num (s : ByteArray) : Rat := (qrd 300 s).1
def okN (l : List ByteArray) : Bool := l.all fun s => decide ((qrd 300 s).2.1 = 0)
theorem okN_false {l : List ByteArray} {i : Nat} (h : i < l.length) (h' : ¬ (qrd 300 (gt l i)).2.1 = 0) : okN l = false := by
  cases hh : okN l with
  | false => rfl
  | true => exact absurd (of_decide_eq_true (List.all_eq_true.1 hh _ (gt_mem h))) h'
theorem okN_true {l : List ByteArray} (h : ∀ i, i < l.length → (qrd 300 (gt l i)).2.1 = 0) : okN l = true := by
  refine List.all_eq_true.2 fun s hs => decide_eq_true ?_
  obtain ⟨i, hi, rfl⟩ := List.getElem_of_mem hs
  have := h i hi
  simpa [gt, hi] using this
def nums (l : List ByteArray) : List Rat := l.map num
def tabs (t : List (List ByteArray)) : List (List Rat) := t.map nums
@[simp] theorem nums_len (l : List ByteArray) : (nums l).length = l.length := by simp [nums]
@[simp] theorem tabs_len (l : List (List ByteArray)) : (tabs l).length = l.length := by simp [tabs]
theorem nums_take {l : List ByteArray} {i : Nat} (h : i < l.length) : (nums l).take (i + 1) = (nums l).take i ++ [num (gt l i)] := by
  unfold nums; rw [← List.map_take, ← List.map_take, take_gt h]; simp
def numsP (l : List ByteArray) : SV := if okN l then .tup [.ro ((nums l).map qsv), .val (.bool true)] else .tup [.ro [], .val (.bool false)]
def numsQ (l : List ByteArray) : SV := if okN l then .tup [.ro ((nums l).map rsv), .val (.bool true)] else .tup [.ro [], .val (.bool false)]
/-- a list of texts of a size that a machine bears -/
structure SmN (l : List ByteArray) : Prop where
  n : l.length ≤ 1048576
  s : ∀ s ∈ l, s.size ≤ 1048576
structure SmT (t : List (List ByteArray)) : Prop where
  n : t.length ≤ 1048576
  s : ∀ l ∈ t, SmN l
theorem step_lt {q : Nat → Prop} {i : Nat} (h : ∀ k, k < i → q k) (h' : q i) : ∀ k, k < i + 1 → q k := fun k hk => by
  rcases Nat.lt_or_ge k i with g | g
  · exact h k g
  · obtain rfl : k = i := by omega
    exact h'
end Go.Tb
namespace Go.Proofs
open Go.Sv Go Go.Tb Go.Pl
theorem pnum_ok (s : ByteArray) (hs : s.size ≤ 4611686018427387904) (hq : (qrd 300 s).2.1 = 0) : PureF Tryz.prog 78 [.val (.string s)] (.tup [qsv (num s), fsv 0 (-1)]) := by
  have := pQRead_ok s hs
  rwa [show outP (qrd 300 s) = .tup [qsv (num s), fsv 0 (-1)] by simp [outP, hq, num]] at this
set_option maxRecDepth 10000 in
theorem rNumbers_ok (l : List ByteArray) (h : SmN l) : PureF Tryz.prog 23 [.ro (l.map strv)] (numsP l) := by
  have hl := h.n
  refine pure_enter Tryz.func23 rfl (by simp) (fun C hC => ?_)
  simp
  refine CodeJ.nil 4 4 rfl ?_
  refine CodeJ.loopL (ι := Nat × List Rat) (fun ⟨i, xs⟩ => ⟨30, [(0, .ro (l.map strv)), (4, .view 0 0 xs.length), (5, .val (.int .i64 i))], [some ⟨4, xs.map qsv, false⟩]⟩)
    (fun ⟨i, xs⟩ => i ≤ l.length ∧ xs = (nums l).take i ∧ ∀ k, k < i → (qrd 300 (gt l k)).2.1 = 0) (fun ⟨i, xs⟩ => l.length - i) (0, []) ?_ ?_ ?_
  · simp
  · simp [leS, hC]
  · rintro ⟨i, xs⟩ ⟨hi, hx, hk⟩
    have hxl : xs.length = i := by rw [hx]; simp; omega
    by_cases hlt : i < l.length
    · have hx' := nums_take hlt
      rw [← hx] at hx'
      have hsz := h.s _ (gt_mem hlt)
      simp (disch := omega) [hlt, lget_str]
      by_cases hq : (qrd 300 (gt l i)).2.1 = 0
      · refine callS (pnum_ok (gt l i) (by omega) hq) (by simp) ?_
        simp (disch := omega) [fsv, w64]
        exact ⟨⟨by simp [hC], by omega⟩, i + 1, xs ++ [num (gt l i)], ⟨by omega, hx'.symm, step_lt hk hq⟩, by omega, Le.syn (by simp [leS, hC])⟩
      · have := okN_false hlt hq
        refine callS (pQRead_ok (gt l i) (by omega)) (by simp) ?_
        simp [outP, hq, fsv, numsP, this]
    · obtain rfl : i = l.length := by omega
      have := okN_true hk
      rw [List.take_of_length_le (by simp)] at hx
      simp [numsP, this, hx, List.take_of_length_le]
end Go.Proofs
namespace Go.Proofs
open Go.Sv Go Go.Tb Go.Pl
theorem pNumber_ok (s : ByteArray) (hs : s.size ≤ 4611686018427387904) : PureF Tryz.prog 80 [.val (.string s)] (.tup [rsv (num s), .val (.bool (decide ((qrd 300 s).2.1 = 0)))]) := by
  refine pure_enter Tryz.func80 rfl (by simp) (fun C hC => ?_)
  simp
  refine callS (qRead_ok s hs) (by simp) ?_
  simp [outQ]
  refine CodeJ.draw (.qs [0, 1, 2] <| .l 3 [0] <| .qs [4] <| .nil) (by kernel_rfl) (by kernel_rfl) (by simp) ?_
  rw [show (qrd 300 s).1 = num s from rfl]
  by_cases hq : (qrd 300 s).2.1 = 0
  · simp [hq, errSV]
  · simp [hq, errSV]
set_option maxRecDepth 10000 in
theorem pNumbers_ok (l : List ByteArray) (h : SmN l) : PureF Tryz.prog 25 [.ro (l.map strv)] (numsQ l) := by
  have hl := h.n
  refine pure_enter Tryz.func25 rfl (by simp) (fun C hC => ?_)
  simp
  refine CodeJ.nil 4 4 rfl ?_
  refine CodeJ.loopL (ι := Nat × List Rat) (fun ⟨i, xs⟩ => ⟨28, [(4, .view 0 0 xs.length), (9, .ro (l.map strv)), (10, .val (.int .i64 l.length)), (11, .val (.int .i64 i))], [some ⟨4, xs.map rsv, false⟩]⟩)
    (fun ⟨i, xs⟩ => i ≤ l.length ∧ xs = (nums l).take i ∧ ∀ k, k < i → (qrd 300 (gt l k)).2.1 = 0) (fun ⟨i, xs⟩ => l.length - i) (0, []) ?_ ?_ ?_
  · simp
  · simp [leS, hC]
  · rintro ⟨i, xs⟩ ⟨hi, hx, hk⟩
    have hxl : xs.length = i := by rw [hx]; simp; omega
    by_cases hlt : i < l.length
    · have hx' := nums_take hlt
      rw [← hx] at hx'
      have hsz := h.s _ (gt_mem hlt)
      simp (disch := omega) [hlt, lget_str]
      refine callS (pNumber_ok (gt l i) (by omega)) (by simp) ?_
      by_cases hq : (qrd 300 (gt l i)).2.1 = 0
      · simp (disch := omega) [hq, w64]
        exact ⟨⟨by simp [hC], by omega⟩, i + 1, xs ++ [num (gt l i)], ⟨by omega, hx'.symm, step_lt hk hq⟩, by omega, Le.syn (by simp [leS, hC])⟩
      · have := okN_false hlt hq
        simp [hq, numsQ, this]
    · obtain rfl : i = l.length := by omega
      have := okN_true hk
      rw [List.take_of_length_le (by simp)] at hx
      simp [numsQ, this, hx, List.take_of_length_le]
end Go.Proofs
namespace Go.Tb
open Go Go.Sv Go.Pl Go.Proofs
end Go.Tb
namespace Go.Proofs
open Go.Sv Go Go.Tb Go.Pl
end Go.Proofs
namespace Go.Tb
open Go Go.Sv Go.Pl Go.Proofs
def txts (l : List Rat) : List ByteArray := l.map qtxt
def rtxts (a : List (List Rat)) : List (List ByteArray) := a.map txts
@[simp] theorem txts_len (l : List Rat) : (txts l).length = l.length := by simp [txts]
@[simp] theorem rtxts_len (a : List (List Rat)) : (rtxts a).length = a.length := by simp [rtxts]
theorem txts_take {l : List Rat} {i : Nat} (h : i < l.length) : (txts l).take (i + 1) = (txts l).take i ++ [qtxt (gt l i)] := by
  unfold txts; rw [← List.map_take, ← List.map_take, take_gt h]; simp
/-- numbers that the program bears -/
structure OKl (l : List Rat) : Prop where
  n : l.length ≤ 1048576
  q : ∀ q ∈ l, qok q
structure OKa (a : List (List Rat)) : Prop where
  n : a.length ≤ 1048576
  r : ∀ r ∈ a, OKl r
end Go.Tb
namespace Go.Proofs
open Go.Sv Go Go.Tb Go.Pl
set_option maxRecDepth 10000 in
theorem pTexts_ok (l : List Rat) (h : OKl l) : PureF Tryz.prog 74 [.ro (l.map rsv)] (.ro ((txts l).map strv)) := by
  have hl := h.n
  refine pure_enter Tryz.func74 rfl (by simp) (fun C hC => ?_)
  simp
  refine CodeJ.nil 3 1 rfl ?_
  refine CodeJ.loopL (ι := Nat × List ByteArray) (fun ⟨i, xs⟩ => ⟨19, [(3, .view 0 0 xs.length), (6, .ro (l.map rsv)), (7, .val (.int .i64 l.length)), (8, .val (.int .i64 i))], [some ⟨1, xs.map strv, false⟩]⟩)
    (fun ⟨i, xs⟩ => i ≤ l.length ∧ xs = (txts l).take i) (fun ⟨i, xs⟩ => l.length - i) (0, []) ?_ ?_ ?_
  · simp
  · simp [leS, hC]
  · rintro ⟨i, xs⟩ ⟨hi, hx⟩
    have hxl : xs.length = i := by rw [hx]; simp; omega
    by_cases hlt : i < l.length
    · have hx' := txts_take hlt
      rw [← hx] at hx'
      have hq := h.q _ (gt_mem hlt)
      simp (disch := omega) [hlt, lget_r]
      refine callS (qText_ok (gt l i) hq) (by simp) ?_
      simp (disch := omega) [w64]
      exact ⟨⟨by simp [hC], by omega⟩, i + 1, xs ++ [qtxt (gt l i)], ⟨by omega, hx'.symm⟩, by omega, Le.syn (by simp [leS, hC])⟩
    · obtain rfl : i = l.length := by omega
      rw [List.take_of_length_le (by simp)] at hx
      simp [hx, List.take_of_length_le]
end Go.Proofs
namespace Go.Tb
open Go Go.Sv Go.Pl Go.Proofs
/-- a table that is not great -/
structure Few (t : List (List ByteArray)) : Prop where
  n : t.length ≤ 6
  r : ∀ i, i < t.length → (gt t i).length ≤ 6 ∧ ∀ k, k < (gt t i).length → (gt (gt t i) k).size ≤ 30
end Go.Tb
namespace Go.Proofs
open Go.Sv Go Go.Tb Go.Pl
theorem fin_b {M : Tab} {Φ : SV → Prop} {b : Bool} (h : Φ (.val (.bool b))) : Sv.fin M (.val (.bool b)) Φ := ⟨_, by simp, h⟩
end Go.Proofs

