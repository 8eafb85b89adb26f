/- What the method Decimal of ratio.R returns. A text of the prover's own. -/
import Derived.Test.YtgiagombkgjhfaaDoorZRb
namespace Go.Proofs
open Go.Sv Go Go.Pl
noncomputable def rdcBody : Code := Tryd.f71.body.getD .skip
abbrev RS (s : ByteArray) : Post := retQ Tryd.prog [.tmp 4] (fun y => y = .val (.string s))
def ent (n : Nat) (x : SV) : Option Ent := some ⟨n, [x], false⟩
/-- the text of so many places -/
def rdcS (p : Nat) (T : ByteArray) : ByteArray := if p = 0 then T else dcDot p (dcPad p T)
theorem rdcS_size {p : Nat} {T : ByteArray} (hp : p ≤ 60) (h : T.size ≤ 20000000000000) : (rdcS p T).size ≤ 30000000000000 := by
  have hps := pad_size p T
  have hus : (dcPad p T).size ≤ 20000000000061 := by
    unfold dcPad; split
    · rw [size_app, zer_size]; omega
    · omega
  unfold rdcS dcDot
  split
  · omega
  · rw [size_app, size_app, size_ext _ (by omega), size_ext _ (by omega)]
    show _ + 1 + _ ≤ _
    omega
set_option maxRecDepth 20000 in
theorem rdc_last {C : Ctx} {m : Nat} {b : Bool} {Q A D r : SV} {S s : ByteArray} (hS : S.size ≤ 30000000000000) (hs : s = if b = true ∧ 0 < m then ⟨#[45]⟩ ++ S else S) :
    CodeJ Tryd.prog C (dropC 12 rdcBody) ⟨108, [(7, .val (.bool b)), (8, .ptr 3 0 0), (15, .val (.string S))], [some ⟨4, [Q], false⟩, some ⟨2, [A], false⟩, some ⟨2, [D], false⟩, some ⟨2, [zsv m], false⟩, some ⟨2, [r], false⟩]⟩ (RS s) := by
  have h45 : (⟨#[45]⟩ : ByteArray).size = 1 := rfl
  have hm0 : 0 < (m : Int).sign ↔ 0 < m := by rw [Int.sign_pos_iff]; omega
  simp only [rdcBody, Tryd.f71, Option.getD_some, dropC_succ, dropC_zero]
  refine CodeJ.go ?_
  cases b
  · simp [hs]
  · simp
    refine callS (sign_ok m) (by simp) ?_
    by_cases v : 0 < m
    · rw [if_pos ⟨rfl, v⟩] at hs
      simp [hm0, v, h45, hs]
      omega
    · rw [if_neg (by omega)] at hs
      simp [hm0, v, hs]
set_option maxRecDepth 20000 in
theorem rdc_fin {C : Ctx} (hC : C.fx = []) {p m : Nat} {b : Bool} {Q A D r : SV} (hp : p ≤ 60) (fm : fw 2301 (m : Nat)) {s : ByteArray} (hs : s = dcTxt b p m) :
    CodeJ Tryd.prog C (dropC 10 rdcBody) ⟨108, [(1, .val (.int .i64 p)), (7, .val (.bool b)), (8, .ptr 3 0 0)], [some ⟨4, [Q], false⟩, some ⟨2, [A], false⟩, some ⟨2, [D], false⟩, some ⟨2, [zsv m], false⟩, some ⟨2, [r], false⟩]⟩ (RS s) := by
  have tx := text_ok m (fit_fw fm (by omega))
  have hts := txt_size (fit_fw fm (by omega))
  have h46 : (⟨#[46]⟩ : ByteArray).size = 1 := rfl
  have hse : s = if b = true ∧ 0 < m then ⟨#[45]⟩ ++ rdcS p (txt m) else rdcS p (txt m) := hs
  have hSS : (rdcS p (txt m)).size ≤ 30000000000000 := rdcS_size hp hts
  clear hs
  refine CodeJ.cutAt 2 (fun st => st = ⟨108, [(7, .val (.bool b)), (8, .ptr 3 0 0), (15, .val (.string (rdcS p (txt m))))], [some ⟨4, [Q], false⟩, some ⟨2, [A], false⟩, some ⟨2, [D], false⟩, some ⟨2, [zsv m], false⟩, some ⟨2, [r], false⟩]⟩) ?_ (fun st h => ?_)
  · generalize txt (m : Int) = T at *
    simp only [rdcBody, Tryd.f71, Option.getD_some, dropC_succ, dropC_zero, takeC_succ, takeC_zero]
    by_cases h0 : p = 0
    · subst h0
      simp
      refine callS tx (by simp) ?_
      simp [leS, hC, rdcS]
    · have hz' : 0 < p := by omega
      have hps : p < (dcPad p T).size := pad_size p _
      have w1 : ((dcPad p T).size : Int) - p = (((dcPad p T).size - p : Nat) : Int) := by omega
      have hus : (dcPad p T).size ≤ 20000000000061 := by
        unfold dcPad; split
        · rw [size_app, zer_size]; omega
        · omega
      unfold rdcS at hSS ⊢
      rw [if_neg h0] at hSS ⊢
      unfold dcDot at hSS ⊢
      simp
      refine callS tx (by simp) ?_
      simp [hz']
      by_cases hl : T.size ≤ p
      · have hpd : dcPad p T = zer (p + 1 - T.size) ++ T := by unfold dcPad; rw [if_pos hl]
        have rp := repeat_ok (p + 1 - T.size) (by omega) (by omega)
        have hk : (p : Int) + 1 - T.size = ((p + 1 - T.size : Nat) : Int) := by omega
        have hl2 : ¬ p < T.size := by omega
        have hsz : (zer (p + 1 - T.size) ++ T).size = p + 1 - T.size + T.size := by rw [size_app, zer_size]
        simp (disch := omega) [hl, hl2, w64, hk]
        refine callS rp (by simp) ?_
        simp
        refine ⟨by omega, ?_⟩
        rw [hpd] at hps w1 hus hSS ⊢
        generalize zer (p + 1 - T.size) ++ T = U at *
        refine CodeJ.draw (.qs [0, 1, 2, 3, 4, 5, 6, 7, 8, 9, 10, 11, 12, 13, 14] <| .nil) (by kernel_rfl) (by kernel_rfl) (by simp) ?_
        simp (disch := omega) [w64, w1, h46, leS, hC]
        omega
      · have hpd : dcPad p T = T := by unfold dcPad; rw [if_neg hl]
        have hl2 : p < T.size := by omega
        rw [hpd] at hps w1 hus hSS ⊢
        simp [hl, hl2]
        refine CodeJ.draw (.qs [0, 1, 2, 3, 4, 5, 6, 7, 8, 9, 10, 11, 12, 13, 14] <| .nil) (by kernel_rfl) (by kernel_rfl) (by simp) ?_
        simp (disch := omega) [w64, w1, h46, leS, hC]
        omega
  · subst h
    exact rdc_last hSS hse
set_option maxRecDepth 20000 in
theorem rdc_mid {C : Ctx} (hC : C.fx = []) {p A d : Nat} {b : Bool} {q : Rat} (hp : p ≤ 60) (wA : fw 2300 (A : Nat)) (wd : fw 2200 (d : Nat)) (hd : d ≠ 0) {s : ByteArray} (hs : s = dcTxt b p (dcM A d)) :
    CodeJ Tryd.prog C (dropC 6 rdcBody) ⟨108, [(1, .val (.int .i64 p)), (5, .ptr 1 0 0), (6, .ptr 2 0 0), (7, .val (.bool b))], [some ⟨4, [rsv q], false⟩, some ⟨2, [zsv A], false⟩, some ⟨2, [zsv d], false⟩]⟩ (RS s) := by
  have dm := divmod_ok A d (fit_fw wA (by omega)) (fit_fw wd (by omega))
  rw [if_neg (by omega), show decide ((d : Int) ≠ 0) = true from decide_eq_true (by omega), show ((A : Nat) : Int) / (d : Int) = ((A / d : Nat) : Int) from (Int.natCast_ediv _ _).symm, show ((A : Nat) : Int) % (d : Int) = ((A % d : Nat) : Int) from (Int.natCast_emod _ _).symm] at dm
  have wh : fw 2300 ((A / d : Nat) : Int) := fw_le (y := A) (by rw [Int.natAbs_natCast, Int.natAbs_natCast]; exact Nat.div_le_self _ _) wA
  have wr : fw 2300 ((A % d : Nat) : Int) := fw_le (y := A) (by rw [Int.natAbs_natCast, Int.natAbs_natCast]; exact Nat.mod_le _ _) wA
  have hM : dcM A d = if d < A % d + A % d ∨ (A % d + A % d = d ∧ A / d % 2 = 1) then A / d + 1 else A / d := rfl
  generalize dcM A d = m at *
  generalize A / d = h at *
  generalize A % d = r at *
  have wt := fw_add wr wr
  have ad := add_ok (r : Int) r (fit_fw wr (by omega)) (fit_fw wr (by omega))
  have cp := cmp_ok ((r : Int) + r) d (Nat.le_trans wt (by omega)) (Nat.le_trans wd (by omega))
  have w2 : fw 1 2 := wid_le (by omega) (by decide)
  have d2 := divmod_ok h 2 (fit_fw wh (by omega)) (fit_fw w2 (by omega))
  rw [if_neg (by omega), show decide ((2 : Int) ≠ 0) = true from rfl] at d2
  have w1 : fw 2301 ((h + 1 : Nat) : Int) := by have := fw_add wh (fw_one (show 1 ≤ 2300 by omega)); simpa using this
  have up := add_ok (h : Int) 1 (fit_fw wh (by omega)) (fit_fw (fw_one (k := 1) (by omega)) (by omega))
  rw [show (h : Int) + 1 = ((h + 1 : Nat) : Int) by push_cast; rfl] at up
  have hsg : 0 < ((h : Int) % 2).sign ↔ h % 2 = 1 := by rw [Int.sign_pos_iff]; omega
  have hM2 : m = if 0 < (if (r : Int) + r < d then (-1 : Int) else if (d : Int) < r + r then 1 else 0) ∨ ((if (r : Int) + r < d then (-1 : Int) else if (d : Int) < r + r then 1 else 0) = 0 ∧ h % 2 = 1) then h + 1 else h := by
    rw [hM]
    by_cases v1 : (r : Int) + r < d
    · rw [if_pos v1, if_neg (by omega), if_neg (by omega)]
    · rw [if_neg v1]
      by_cases v2 : (d : Int) < r + r
      · rw [if_pos v2, if_pos (by omega), if_pos (by omega)]
      · rw [if_neg v2]
        by_cases v3 : h % 2 = 1
        · rw [if_pos (by omega), if_pos (by omega)]
        · rw [if_neg (by omega), if_neg (by omega)]
  generalize (if (r : Int) + r < d then (-1 : Int) else if (d : Int) < r + r then 1 else 0) = c at *
  refine CodeJ.cutAt 4 (fun st => st = ⟨108, [(1, .val (.int .i64 p)), (7, .val (.bool b)), (8, .ptr 3 0 0)], [some ⟨4, [rsv q], false⟩, some ⟨2, [zsv A], false⟩, some ⟨2, [zsv d], false⟩, some ⟨2, [zsv m], false⟩, some ⟨2, [zsv r], false⟩]⟩) ?_ (fun st h => ?_)
  · simp only [rdcBody, Tryd.f71, Option.getD_some, dropC_succ, dropC_zero, takeC_succ, takeC_zero]
    simp
    refine callS dm (by simp) ?_
    simp
    refine CodeJ.draw (.qs [0, 1, 3] <| .l 2 [] <| .l 4 [] <| .qs [5] <| .nil) (by kernel_rfl) (by kernel_rfl) (by simp) ?_
    simp
    refine callS ad (by simp) ?_
    simp
    refine callS cp (by simp) ?_
    simp
    refine CodeJ.drawZ (.d 7 <| .d 8 <| .qs [0] <| .p 1 <| .p 2 <| .qs [3, 4, 5, 6] <| .b (.l 9 [5] <| .l 10 [6] <| .qs [11] <| .nil)) (by kernel_rfl) (by kernel_rfl) (by simp) ?_
    simp
    refine callV (of_ok 2 (by omega) (by omega)) (by simp) ?_
    simp
    refine callV d2 (by simp) ?_
    by_cases u1 : 0 < c
    · rw [if_pos (.inl u1)] at hM2
      simp [u1]
      refine CodeJ.draw (.qs [0] <| .l 1 [] <| .l 2 [] <| .l 3 [3] <| .nil) (by kernel_rfl) (by kernel_rfl) (by simp) ?_
      simp
      refine callS (of_ok 1 (by omega) (by omega)) (by simp) ?_
      simp
      refine callS up (by simp) ?_
      simp [leS, hC, hM2]
    · by_cases u2 : c = 0
      · subst u2
        simp
        refine callS (sign_ok _) (by simp) ?_
        by_cases u3 : h % 2 = 1
        · rw [if_pos (.inr ⟨rfl, u3⟩)] at hM2
          simp [hsg, u3]
          refine CodeJ.draw (.qs [0] <| .l 1 [] <| .l 2 [] <| .l 3 [3] <| .nil) (by kernel_rfl) (by kernel_rfl) (by simp) ?_
          simp
          refine callS (of_ok 1 (by omega) (by omega)) (by simp) ?_
          simp
          refine callS up (by simp) ?_
          simp [leS, hC, hM2]
        · rw [if_neg (by omega)] at hM2
          simp [hsg, u3]
          simp [leS, hC, hM2]
      · rw [if_neg (by omega)] at hM2
        simp [u1, u2]
        simp [leS, hC, hM2]
  · subst h
    exact rdc_fin hC hp (by rw [hM2]; split; exact w1; exact fw_mono wh (by omega)) hs
set_option maxRecDepth 20000 in
theorem qDecimal_ok (q : Rat) (n : Int) (hq : qw 2200 q) (h1 : -9223372036854775808 ≤ n) (h2 : n ≤ 9223372036854775807) : PureF Tryd.prog 71 [rsv q, .val (.int .i64 n)] (.val (.string (dcTxt (decide (q.num < 0)) (clp n) (dcM (q.num.natAbs * 10 ^ clp n) q.den)))) := by
  refine pure_enterJ Tryd.func71 rfl (by simp) (fun C hC => ?_)
  have hcl : max 0 (min n 60) = ((clp n : Nat) : Int) := by unfold clp; omega
  have hp := clp_le n
  have wn : fw 2200 ((q.num.natAbs : Nat) : Int) := by have := hq.1; unfold fw at *; simpa using this
  have wp : ∀ i, i ≤ clp n → fw 2300 ((q.num.natAbs * 10 ^ i : Nat) : Int) := fun i hi => by have := fw_mul wn (fw_p10 (i := i) (by omega)); simpa using this
  generalize clp n = p at *
  refine CodeJ.cutAt 5 (fun st => st = ⟨108, [(1, .val (.int .i64 p)), (5, .ptr 1 0 0), (6, .ptr 2 0 0), (7, .val (.bool (decide (q.num < 0))))], [some ⟨4, [rsv q], false⟩, some ⟨2, [zsv ((q.num.natAbs : Nat) : Int)], false⟩, some ⟨2, [zsv q.den], false⟩]⟩) ?_ (fun st h => CodeJ.cutAt 1 (fun st => st = ⟨108, [(1, .val (.int .i64 p)), (5, .ptr 1 0 0), (6, .ptr 2 0 0), (7, .val (.bool (decide (q.num < 0))))], [some ⟨4, [rsv q], false⟩, some ⟨2, [zsv ((q.num.natAbs * 10 ^ p : Nat) : Int)], false⟩, some ⟨2, [zsv q.den], false⟩]⟩) ?_ (fun st h => ?_))
  · simp [hcl]
    refine CodeJ.drawZ (.d 4 <| .d 5 <| .qs [0, 1, 2] <| .p 3 <| .b (.l 6 [1] <| .l 7 [2] <| .nil)) (by kernel_rfl) (by kernel_rfl) (by simp) ?_
    simp
    refine callV (qDen_ok q (qok_of hq (by omega))) (by simp) ?_
    simp
    refine callS (sign_ok q.num) (by simp) ?_
    by_cases v : q.num < 0
    · have hs : q.num.sign < 0 := by rw [Int.sign_eq_neg_one_of_neg v]; omega
      have hab : -q.num = ((q.num.natAbs : Nat) : Int) := by omega
      have ng := neg_ok q.num
      rw [hab] at ng
      simp [hs]
      refine callS ng (by simp) ?_
      simp [leS, hC, v]
    · have hs : ¬ q.num.sign < 0 := fun h => v (Int.sign_neg_iff.1 h)
      have hab : q.num = ((q.num.natAbs : Nat) : Int) := by omega
      simp [hs]
      simp [leS, hC, v, ← hab]
  · subst h
    simp only [dropC_succ, dropC_zero, takeC_succ, takeC_zero]
    simp
    refine CodeJ.loop (ι := Nat) (fun i => ⟨108, [(1, .val (.int .i64 p)), (5, .ptr 1 0 0), (6, .ptr 2 0 0), (7, .val (.bool (decide (q.num < 0)))), (29, .val (.int .i64 p)), (30, .val (.int .i64 i))], [some ⟨4, [rsv q], false⟩, some ⟨2, [zsv ((q.num.natAbs * 10 ^ i : Nat) : Int)], false⟩, some ⟨2, [zsv q.den], false⟩]⟩)
      (fun i => i ≤ p) (fun i => p - i) 0 ?_ ?_ ?_
    · exact Nat.zero_le _
    · simp [leS, hC]
    · rintro i hi
      by_cases hip : i < p
      · have w1 := wp i hi
        have ml := mul_ok _ 10 (fit_fw w1 (by omega)) (fit_fw fw_ten (by omega))
        rw [show ((q.num.natAbs * 10 ^ i : Nat) : Int) * 10 = ((q.num.natAbs * 10 ^ (i + 1) : Nat) : Int) by rw [Nat.pow_succ]; push_cast; rw [Int.mul_assoc]] at ml
        have e2 : q.num.natAbs * 10 ^ (i + 1) = q.num.natAbs * 10 ^ (i + 1) := rfl
        generalize hB : ((q.num.natAbs * 10 ^ (i + 1) : Nat) : Int) = B at *
        generalize hD : ((q.num.natAbs * 10 ^ i : Nat) : Int) = D at *
        simp [hip]
        refine CodeJ.draw (.qs [0] <| .l 1 [] <| .l 2 [] <| .l 3 [1] <| .nil) (by kernel_rfl) (by kernel_rfl) (by simp) ?_
        simp
        refine callS (of_ok 10 (by omega) (by omega)) (by simp) ?_
        simp
        refine callS ml (by simp) ?_
        simp (disch := omega) [w64]
        exact ⟨i + 1, by omega, by omega, by simp [leS, hC, ← hB]⟩
      · obtain rfl : i = p := by omega
        simp [leS, hC]
  · subst h
    exact rdc_mid hC hp (wp p (Nat.le_refl _)) hq.2 q.den_nz rfl
