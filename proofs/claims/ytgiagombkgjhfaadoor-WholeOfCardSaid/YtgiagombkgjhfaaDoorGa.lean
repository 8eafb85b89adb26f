/- What the document's functions trim, made, Sign, Neg, size, Cmp, Of and Small return. A text of the prover's own. -/
import Derived.Test.YtgiagombkgjhfaaDoorFs
namespace Go.Proofs
open Go.Sv Go Go.Pl
/-- the document's number -/
def nsv (x : Int) : SV := .agg [.val (.bool (decide (x < 0))), .ro ((dig 10000 x.natAbs).map i64)]
@[simp] theorem nsv_csz (x : Int) : (nsv x).csz = 2 := rfl
@[simp] theorem nsv_isTup (x : Int) : (nsv x).isTup = false := rfl
@[simp] theorem nsv_isAgg (x : Int) : (nsv x).isAgg = true := rfl
@[simp] theorem nsv_one (x : Int) : (nsv x).one = false := rfl
@[simp] theorem nsv_pure (x : Int) : (nsv x).pure = true := rfl
@[simp] theorem nsv_lt (n : Nat) (x : Int) : (nsv x).lt n = true := rfl
@[simp] theorem nsv_uses (k : Nat) (x : Int) : (nsv x).uses k = false := rfl
@[simp] theorem nsv_ks (x : Int) : (nsv x).ks = [] := rfl
@[simp] theorem Sub_nsv (M : Tab) (x : Int) (y : SV) : Sub M (nsv x) y = (y = nsv x) := by
  cases y with
  | agg l =>
    match l with
    | [] => simp [nsv, Sv.Sub, SubL]
    | [a] => simp [nsv, Sv.Sub, SubL]
    | a :: b :: c :: r => simp [nsv, Sv.Sub, SubL]
    | [a, b] => cases a <;> simp [nsv, Sv.Sub, SubL]; intro _; exact eq_comm
  | _ => simp [nsv, Sv.Sub]
theorem dig4_pos_len (x : Int) : 0 < (dig 10000 x.natAbs).length ↔ x ≠ 0 := by
  rw [List.length_pos_iff, ne_eq, dig_eq_nil (by omega)]; omega
theorem take_snoc {l : List Nat} {k : Nat} (h : k < l.length) : l.take (k + 1) = l.take k ++ [dg l k] := by
  rw [List.take_add_one, List.getElem?_eq_getElem h]; simp [dg, List.getD_eq_getElem?_getD, List.getElem?_eq_getElem h]
set_option maxRecDepth 10000 in
theorem rTrim_ok (xs : List Nat) (h : xs.length ≤ 4398046511104) : PureF Tryd.prog 105 [.ro (xs.map i64)] (.ro ((trimL xs).map i64)) := by
  refine pure_enter Tryd.func105 rfl (by simp) (fun C hC => ?_)
  simp
  refine CodeJ.loop (ι := Nat) (fun n => ⟨21, [(0, .ro (xs.map i64)), (3, .val (.int .i64 n))], []⟩) (fun n => n ≤ xs.length ∧ trimL (xs.take n) = trimL xs) (fun n => n) xs.length ?_ ?_ ?_
  · simp
  · simp [leS]
  · rintro n ⟨hl, ht⟩
    cases n with
    | zero =>
      simp [trimL] at ht
      simp [← ht]
    | succ k =>
      have tk := take_snoc (l := xs) (k := k) (by omega)
      by_cases hz : dg xs k = 0
      · rw [tk, hz, trimL_zero] at ht
        simp (disch := omega) [w64, lget_i64, hz]
        refine ⟨by omega, k, ⟨by omega, ht⟩, by omega, by simp [leS, hC]⟩
      · have hz' : ¬ (dg xs k : Int) = 0 := by omega
        rw [tk, trimL_snoc _ hz, ← tk] at ht
        simp (disch := omega) [w64, lget_i64, hz', hz]
        refine ⟨by omega, by omega, ?_⟩
        rw [← List.map_take, ht]
set_option maxRecDepth 10000 in
theorem rMade_ok (b : Bool) (xs : List Nat) (h : xs.length ≤ 4398046511104) (hx : ∀ d ∈ xs, d < 10000) :
    PureF Tryd.prog 81 [.val (.bool b), .ro (xs.map i64)] (nsv (if b = true then -(val 10000 xs : Int) else (val 10000 xs : Int))) := by
  refine pure_enter Tryd.func81 rfl (by simp) (fun C hC => ?_)
  simp
  refine callF (rTrim_ok xs h) (by simp) ?_
  rw [← dig_val (by omega) xs hx]
  generalize val 10000 xs = n
  cases b with
  | false => 
    simp [nsv]
  | true =>
    simp [nsv, List.length_pos_iff, dig_eq_nil]
    by_cases h : n = 0 <;> simp [h]; omega
set_option maxRecDepth 10000 in
theorem rSign_ok (x : Int) : PureF Tryd.prog 38 [nsv x] (.val (.int .i64 x.sign)) := by
  refine pure_enter Tryd.func38 rfl (by simp) (fun C hC => ?_)
  simp [nsv, dig_eq_nil]
  refine ⟨fun h => by simp [h], fun _ => ⟨fun h => (Int.sign_eq_neg_one_of_neg h).symm, fun h => (Int.sign_eq_one_of_pos (by omega)).symm⟩⟩
set_option maxRecDepth 10000 in
theorem rNeg_ok (x : Int) : PureF Tryd.prog 35 [nsv x] (nsv (-x)) := by
  refine pure_enter Tryd.func35 rfl (by simp) (fun C hC => ?_)
  simp [nsv, dig4_pos_len]
  refine ⟨fun h => ?_, fun h => by omega⟩
  by_cases h0 : x = 0
  · simp [h0]
  · have : 0 < x := by omega
    simp [h0, this]
set_option maxRecDepth 10000 in
theorem rSize_ok (m n : Nat) (hm : wid 10000 m ≤ 4398046511104) (hn : wid 10000 n ≤ 4398046511104) :
    PureF Tryd.prog 90 [.ro ((dig 10000 m).map i64), .ro ((dig 10000 n).map i64)] (.val (.int .i64 (cmp3 m n))) := by
  refine pure_enter Tryd.func90 rfl (by simp) (fun C hC => ?_)
  have vm := val_dig (B := 10000) (by omega) m
  have vn := val_dig (B := 10000) (by omega) n
  have lm := dig_lt (B := 10000) (by omega) m
  have ln := dig_lt (B := 10000) (by omega) n
  simp only [wid] at hm hn
  simp
  refine ⟨fun hne => ⟨fun hlt => ?_, fun hge => ?_⟩, fun he => ?_⟩
  · simp [cmp3, lt_of_wid (by omega) hlt]
  · have := lt_of_wid (B := 10000) (m := n) (n := m) (by omega) (by omega)
    simp [cmp3, this]; omega
  · refine CodeJ.loop (ι := List Nat × List Nat × List Nat) (fun ⟨la, lb, r⟩ => ⟨41, [(0, .ro ((la ++ r).map i64)), (1, .ro ((lb ++ r).map i64)), (5, .val (.int .i64 ((la.length : Int) - 1)))], []⟩)
      (fun ⟨la, lb, r⟩ => dig 10000 m = la ++ r ∧ dig 10000 n = lb ++ r ∧ la.length = lb.length) (fun ⟨la, lb, r⟩ => la.length) (dig 10000 m, dig 10000 n, []) ?_ ?_ ?_
    · simp; omega
    · simp (disch := omega) [leS, w64]
    · rintro ⟨la, lb, r⟩ ⟨h1, h2, h3⟩
      rcases List.eq_nil_or_concat la with rfl | ⟨la, x, rfl⟩
      · have : lb = [] := by cases lb <;> simp_all
        subst this
        simp
        have : m = n := by rw [← vm, ← vn, h1, h2]
        simp [cmp3, this]
      · rcases List.eq_nil_or_concat lb with rfl | ⟨lb, y, rfl⟩
        · simp at h3
        simp at h1 h2 h3
        simp [h3]
        have hl : lb.length < 4398046511104 := by rw [h2] at hn; simp at hn; omega
        refine CodeJ.draw (.qs [0, 1, 2, 3, 4, 5, 6, 7, 8] .nil) (by kernel_rfl) (by kernel_rfl) (by simp) ?_
        have c1 : x < y → m < n := fun h => by rw [← vm, ← vn, h1, h2]; exact cmp_top (fun d hd => lm d (by rw [h1]; simp [hd])) h3 h
        have c2 : y < x → n < m := fun h => by rw [← vm, ← vn, h1, h2]; exact cmp_top (fun d hd => ln d (by rw [h2]; simp [hd])) h3.symm h
        simp (disch := omega) [lget_at, w64]
        refine ⟨by omega, by omega, fun hlt => ?_, fun hge => ?_⟩
        · simp [cmp3, c1 hlt]
        · refine CodeJ.draw (.qs [0, 1, 2, 3, 4, 5, 6, 7, 8] .nil) (by kernel_rfl) (by kernel_rfl) (by simp) ?_
          simp (disch := omega) [lget_at, w64]
          refine ⟨by omega, by omega, fun hlt => ?_, fun hge' => ?_⟩
          · have := c2 (by omega)
            simp [cmp3, this]; omega
          · refine ⟨la, lb, y :: r, ?_⟩
            have he : x = y := by omega
            simp [h1, h2, h3, he, leS, hC]

set_option maxRecDepth 10000 in
theorem rCmp_ok (x y : Int) (hm : wid 10000 x.natAbs ≤ 4398046511104) (hn : wid 10000 y.natAbs ≤ 4398046511104) :
    PureF Tryd.prog 37 [nsv x, nsv y] (.val (.int .i64 (if x < y then -1 else if y < x then 1 else 0))) := by
  refine pure_enter Tryd.func37 rfl (by simp) (fun C hC => ?_)
  have hc := rSize_ok _ _ hm hn
  by_cases hx : x < 0 <;> by_cases hy : y < 0 <;> simp [nsv, hx, hy]
  · refine callF hc (by simp) ?_
    rcases Int.lt_trichotomy x y with h | h | h
    · have e : cmp3 x.natAbs y.natAbs = 1 := by rw [cmp3, if_neg (by omega), if_pos (by omega)]
      simp [e, h, w64]
    · subst h; simp [cmp3, w64]
    · have e : cmp3 x.natAbs y.natAbs = -1 := by rw [cmp3, if_pos (by omega)]
      have : ¬ x < y := by omega
      simp [e, h, this, w64]
  · omega
  · omega
  · refine callF hc (by simp) ?_
    rcases Int.lt_trichotomy x y with h | h | h
    · have e : cmp3 x.natAbs y.natAbs = -1 := by rw [cmp3, if_pos (by omega)]
      simp [e, h]
    · subst h; simp [cmp3]
    · have e : cmp3 x.natAbs y.natAbs = 1 := by rw [cmp3, if_neg (by omega), if_pos (by omega)]
      have : ¬ x < y := by omega
      simp [e, h, this]

theorem rlen {o r l : List Nat} (h : l = o ++ r) : o.length ≤ l.length := by rw [h]; simp
theorem dig_n64 {m : Nat} (h : m ≤ 9223372036854775808) : (dig 10000 m).length ≤ 5 := wid_le (by omega) (by omega)
set_option maxRecDepth 10000 in
theorem rOf_ok (n : Int) (h1 : -9223372036854775808 ≤ n) (h2 : n ≤ 9223372036854775807) : PureF Tryd.prog 18 [.val (.int .i64 n)] (nsv n) := by
  refine pure_enter Tryd.func18 rfl (by simp) (fun C hC => ?_)
  have hl := dig_n64 (m := n.natAbs) (by omega)
  simp
  refine CodeJ.nil 3 1 rfl ?_
  by_cases hn : n < 0
  · refine CodeJ.loop (ι := Nat × List Nat) (fun ⟨m, o⟩ => ⟨25, [(0, .val (.int .i64 n)), (2, .ptr 0 0 0), (3, .view 1 0 o.length), (4, .val (.int .i64 (-(m : Int))))],
        [some ⟨2, [.agg [.val (.bool false), .val (.slice none 0 0)]], false⟩, some ⟨1, o.map i64, false⟩]⟩)
      (fun ⟨m, o⟩ => m ≤ 9223372036854775808 ∧ dig 10000 n.natAbs = o ++ dig 10000 m) (fun ⟨m, o⟩ => m) (n.natAbs, []) ?_ ?_ ?_
    · exact ⟨by omega, by simp⟩
    · simp [leS, hC]
      omega
    · rintro ⟨m, o⟩ ⟨g1, g2⟩
      have ho := rlen g2
      by_cases hm : m = 0
      · subst hm
        simp [dig_zero] at g2
        simp [nsv, hn, g2, List.take_of_length_le]
      · obtain ⟨d, hd⟩ : ∃ d, d = m % 10000 := ⟨_, rfl⟩
        have e1 : (m : Int).tmod 10000 = d := by rw [Int.tmod_eq_emod_of_nonneg (by omega)]; omega
        obtain ⟨q, hq⟩ : ∃ q, q = m / 10000 := ⟨_, rfl⟩
        have e2 : (m : Int) / 10000 = q := by omega
        have g3 : dig 10000 n.natAbs = (o ++ [d]) ++ dig 10000 (m / 10000) := by rw [g2, dig_pos (by omega) (by omega), hd]; simp
        by_cases hd0 : d = 0
        · simp (disch := omega) [hm, e1, e2, hd0, w64, hC]
          refine ⟨by omega, q, o ++ [0], ⟨by omega, by rw [g3, hd0, hq]⟩, by omega, by simp [leS, hC]⟩
        · have hd1 : 0 < d := by omega
          simp (disch := omega) [hm, e1, e2, hd1, w64, hC]
          refine ⟨by omega, q, o ++ [d], ⟨by omega, by rw [g3, hq]⟩, by omega, by simp [leS, hC]⟩
  · refine CodeJ.loop (ι := Nat × List Nat) (fun ⟨m, o⟩ => ⟨25, [(0, .val (.int .i64 n)), (2, .ptr 0 0 0), (3, .view 1 0 o.length), (4, .val (.int .i64 m))],
        [some ⟨2, [.agg [.val (.bool false), .val (.slice none 0 0)]], false⟩, some ⟨1, o.map i64, false⟩]⟩)
      (fun ⟨m, o⟩ => m ≤ 9223372036854775807 ∧ dig 10000 n.natAbs = o ++ dig 10000 m) (fun ⟨m, o⟩ => m) (n.natAbs, []) ?_ ?_ ?_
    · exact ⟨by omega, by simp⟩
    · simp [leS, hC]
      omega
    · rintro ⟨m, o⟩ ⟨g1, g2⟩
      have ho := rlen g2
      by_cases hm : m = 0
      · subst hm
        simp [dig_zero] at g2
        simp [nsv, hn, g2, List.take_of_length_le]
      · obtain ⟨d, hd⟩ : ∃ d, d = m % 10000 := ⟨_, rfl⟩
        have e1 : (m : Int).tmod 10000 = d := by rw [Int.tmod_eq_emod_of_nonneg (by omega)]; omega
        have e2 : (m : Int).tdiv 10000 = (m / 10000 : Nat) := by rw [Int.tdiv_eq_ediv_of_nonneg (by omega)]; omega
        have g3 : dig 10000 n.natAbs = (o ++ [d]) ++ dig 10000 (m / 10000) := by rw [g2, dig_pos (by omega) (by omega), hd]; simp
        simp (disch := omega) [hm, e1, e2, w64, hC]
        refine ⟨by omega, by omega, m / 10000, o ++ [d], ⟨by omega, g3⟩, by omega, by simp [leS, hC]⟩
set_option maxRecDepth 10000 in
theorem rSmall_ok (n : Int) (h1 : -9223372036854775807 ≤ n) (h2 : n ≤ 9223372036854775807) : PureF Tryd.prog 93 [.val (.int .i64 n)] (nsv n) := by
  refine pure_enter Tryd.func93 rfl (by simp) (fun C hC => ?_)
  have hl := dig_n64 (m := n.natAbs) (by omega)
  by_cases hn : n < 0
  · simp (disch := omega) [hn, w64]
    refine CodeJ.nil 4 1 rfl ?_
    refine CodeJ.loop (ι := Nat × List Nat) (fun ⟨m, o⟩ => ⟨22, [(0, .val (.int .i64 m)), (2, .ptr 0 0 0), (3, .val (.bool true)), (4, .view 1 0 o.length)],
        [some ⟨2, [.agg [.val (.bool false), .val (.slice none 0 0)]], false⟩, some ⟨1, o.map i64, false⟩]⟩)
      (fun ⟨m, o⟩ => m ≤ 9223372036854775807 ∧ dig 10000 n.natAbs = o ++ dig 10000 m) (fun ⟨m, o⟩ => m) (n.natAbs, []) ?_ ?_ ?_
    · exact ⟨by omega, by simp⟩
    · simp [leS, hC]
      omega
    · rintro ⟨m, o⟩ ⟨g1, g2⟩
      have ho := rlen g2
      by_cases hm : m = 0
      · subst hm
        simp [dig_zero] at g2
        simp [nsv, hn, g2, List.take_of_length_le]
      · obtain ⟨d, hd⟩ : ∃ d, d = m % 10000 := ⟨_, rfl⟩
        have e1 : (m : Int).tmod 10000 = d := by rw [Int.tmod_eq_emod_of_nonneg (by omega)]; omega
        have e2 : (m : Int).tdiv 10000 = (m / 10000 : Nat) := by rw [Int.tdiv_eq_ediv_of_nonneg (by omega)]; omega
        have g3 : dig 10000 n.natAbs = (o ++ [d]) ++ dig 10000 (m / 10000) := by rw [g2, dig_pos (by omega) (by omega), hd]; simp
        have hm' : 0 < m := by omega
        simp (disch := omega) [hm', e1, e2, w64, hC]
        refine ⟨by omega, m / 10000, o ++ [d], ⟨by omega, g3⟩, by omega, by simp [leS, hC]⟩
  · simp (disch := omega) [hn, w64]
    refine CodeJ.nil 4 1 rfl ?_
    refine CodeJ.loop (ι := Nat × List Nat) (fun ⟨m, o⟩ => ⟨22, [(0, .val (.int .i64 m)), (2, .ptr 0 0 0), (3, .val (.bool false)), (4, .view 1 0 o.length)],
        [some ⟨2, [.agg [.val (.bool false), .val (.slice none 0 0)]], false⟩, some ⟨1, o.map i64, false⟩]⟩)
      (fun ⟨m, o⟩ => m ≤ 9223372036854775807 ∧ dig 10000 n.natAbs = o ++ dig 10000 m) (fun ⟨m, o⟩ => m) (n.natAbs, []) ?_ ?_ ?_
    · exact ⟨by omega, by simp⟩
    · simp [leS, hC]
      omega
    · rintro ⟨m, o⟩ ⟨g1, g2⟩
      have ho := rlen g2
      by_cases hm : m = 0
      · subst hm
        simp [dig_zero] at g2
        simp [nsv, hn, g2, List.take_of_length_le]
      · obtain ⟨d, hd⟩ : ∃ d, d = m % 10000 := ⟨_, rfl⟩
        have e1 : (m : Int).tmod 10000 = d := by rw [Int.tmod_eq_emod_of_nonneg (by omega)]; omega
        have e2 : (m : Int).tdiv 10000 = (m / 10000 : Nat) := by rw [Int.tdiv_eq_ediv_of_nonneg (by omega)]; omega
        have g3 : dig 10000 n.natAbs = (o ++ [d]) ++ dig 10000 (m / 10000) := by rw [g2, dig_pos (by omega) (by omega), hd]; simp
        have hm' : 0 < m := by omega
        simp (disch := omega) [hm', e1, e2, w64, hC]
        refine ⟨by omega, m / 10000, o ++ [d], ⟨by omega, g3⟩, by omega, by simp [leS, hC]⟩
end Go.Proofs
