/- What the document's function Decimal returns. A text of the prover's own. -/
import Derived.Test.YtgiagombkgjhfaaDoorZRa
namespace Go.Pl
open Go Go.Sv Go.Proofs
def clp (n : Int) : Nat := (max 0 (min n 60)).toNat
/-- the nearest whole number of so many places, of two the even one -/
def dcM (A d : Nat) : Nat := if d < A % d + A % d ∨ (A % d + A % d = d ∧ A / d % 2 = 1) then A / d + 1 else A / d
def dcPad (p : Nat) (T : ByteArray) : ByteArray := if T.size ≤ p then zer (p + 1 - T.size) ++ T else T
def dcDot (p : Nat) (T : ByteArray) : ByteArray := (T.extract 0 (T.size - p) ++ ⟨#[46]⟩) ++ T.extract (T.size - p) T.size
def dcTxt (b : Bool) (p m : Nat) : ByteArray :=
  if b = true ∧ 0 < m then ⟨#[45]⟩ ++ (if p = 0 then txt m else dcDot p (dcPad p (txt m))) else if p = 0 then txt m else dcDot p (dcPad p (txt m))
theorem clp_le (n : Int) : clp n ≤ 60 := by unfold clp; omega
end Go.Pl
namespace Go.Proofs
open Go.Sv Go Go.Pl
theorem zer_cat (k : Nat) (T : ByteArray) : ⟨#[48]⟩ ++ (zer k ++ T) = zer (k + 1) ++ T := by
  apply ByteArray.ext
  rw [ByteArray.data_append, ByteArray.data_append, ByteArray.data_append, ← Array.append_assoc]
  congr 1
  show #[48] ++ Array.replicate k 48 = Array.replicate (k + 1) 48
  rw [Nat.add_comm, ← Array.replicate_append_replicate]
  rfl
theorem zer_nil (T : ByteArray) : zer 0 ++ T = T := by
  apply ByteArray.ext; rw [ByteArray.data_append]; show #[] ++ T.data = T.data; simp
theorem pad_eq {p k : Nat} {T : ByteArray} (h1 : k ≤ p + 1 - T.size) (h2 : p < k + T.size) : zer k ++ T = dcPad p T := by
  unfold dcPad
  by_cases h : T.size ≤ p
  · rw [if_pos h, show p + 1 - T.size = k by omega]
  · rw [if_neg h, show k = 0 by omega, zer_nil]
theorem pad_size (p : Nat) (T : ByteArray) : p < (dcPad p T).size := by
  unfold dcPad
  by_cases h : T.size ≤ p
  · rw [if_pos h, size_app, zer_size]; omega
  · rw [if_neg h]; omega
theorem qsv_c0 (q : Rat) : lget (qsv q).cells 0 = .val (.bool (decide (q.num < 0))) := rfl
theorem qsv_c1 (q : Rat) : lget (qsv q).cells 1 = .ro ((dig 10000 q.num.natAbs).map i64) := rfl
theorem nsv_c1 (x : Int) : lget (nsv x).cells 1 = .ro ((dig 10000 x.natAbs).map i64) := rfl
theorem nsv_nat (n : Nat) : nsv (n : Int) = .agg [.val (.bool false), .ro ((dig 10000 n).map i64)] := by unfold nsv; congr 4 <;> simp
noncomputable def decBody : Code := Tryd.f72.body.getD .skip
set_option maxRecDepth 20000 in
theorem dec_fin {C : Ctx} (hC : C.fx = []) {q : Rat} {p m : Nat} {X A r tw : Int} (hp : p ≤ 60) (fm : fw 2301 (m : Nat)) {s : ByteArray} (hs : s = dcTxt (decide (q.num < 0)) p m) :
    CodeJ Tryd.prog C (dropC 10 decBody) ⟨101, [(1, .val (.int .i64 p)), (2, .ptr 0 0 0), (7, .ptr 3 0 0)], [some ⟨4, [qsv q], false⟩, some ⟨2, [nsv X], false⟩, some ⟨2, [nsv A], false⟩, some ⟨2, [nsv m], false⟩, some ⟨2, [nsv r], false⟩, some ⟨2, [nsv tw], false⟩]⟩ (retQ Tryd.prog [.tmp 4] (fun y => y = .val (.string s))) := by
  simp only [decBody, Tryd.f72, Option.getD_some, dropC_succ, dropC_zero]
  refine CodeJ.go ?_
  have tx := rText_ok m (rfit_of fm (by omega))
  have hts := txt_size (fit_fw fm (by omega))
  have h45 : (⟨#[45]⟩ : ByteArray).size = 1 := rfl
  by_cases h0 : p = 0
  · subst h0
    unfold dcTxt at hs
    simp only [if_true] at hs
    simp
    refine callS tx (by simp) ?_
    by_cases v1 : q.num < 0
    · by_cases v2 : m = 0
      · rw [if_neg (by omega)] at hs
        subst v2
        simp [qsv_c0, nsv_c1, v1, dig_zero, hs]
      · have v3 : ¬ (dig 10000 m).length = 0 := fun h => v2 (dig4_zero.1 h)
        rw [if_pos (by simp [v1]; omega)] at hs
        simp [h45, qsv_c0, nsv_c1, v1, v3, hs]
        exact fun _ => by omega
    · rw [if_neg (by simp [v1])] at hs
      simp [qsv_c0, nsv_c1, v1, hs]
  · have hz' : 0 < p := by omega
    have hcat : ∀ k : Nat, ⟨#[48]⟩ ++ (zer k ++ txt (m : Int)) = zer (k + 1) ++ txt (m : Int) := fun k => zer_cat k _
    have hpad : ∀ k : Nat, k ≤ p + 1 - (txt (m : Int)).size → p < k + (txt (m : Int)).size → zer k ++ txt (m : Int) = dcPad p (txt m) := fun k => pad_eq
    have hps : p < (dcPad p (txt (m : Int))).size := pad_size p _
    unfold dcTxt at hs
    simp only [if_neg h0] at hs
    generalize txt (m : Int) = T at *
    simp
    refine callS tx (by simp) ?_
    simp [hz']
    refine CodeJ.loop (ι := Nat) (fun k => ⟨101, [(1, .val (.int .i64 p)), (2, .ptr 0 0 0), (7, .ptr 3 0 0), (13, .val (.string (zer k ++ T)))], [some ⟨4, [qsv q], false⟩, some ⟨2, [nsv X], false⟩, some ⟨2, [nsv A], false⟩, some ⟨2, [nsv m], false⟩, some ⟨2, [nsv r], false⟩, some ⟨2, [nsv tw], false⟩]⟩)
      (fun k => k ≤ p + 1 - T.size) (fun k => p + 1 - (k + T.size)) 0 ?_ ?_ ?_
    · exact Nat.zero_le _
    · simp [leS, hC, zer_nil]
    · rintro k hk
      by_cases hkp : k + T.size ≤ p
      · have h48 : (⟨#[48]⟩ : ByteArray).size = 1 := rfl
        have hc := hcat k
        have hks : (zer k ++ T).size = k + T.size := by simp
        generalize (zer k ++ T) = V at *
        have hV : V.size ≤ p := by omega
        simp [hV, h48]
        exact ⟨by omega, k + 1, by omega, by omega, by simp [leS, hC, hc]⟩
      · have e := hpad k hk (by omega)
        have hks : (zer k ++ T).size = k + T.size := by simp
        rw [e] at hks ⊢
        generalize dcPad p T = U at *
        have hu : ¬ (U.size : Int) ≤ p := by omega
        simp [hu]
        refine CodeJ.draw (.qs [0, 1, 2, 3, 4, 5, 6, 7, 8, 9, 10, 11, 12, 13, 14] <| .nil) (by kernel_rfl) (by kernel_rfl) (by simp) ?_
        have hus : U.size ≤ 20000000000100 := by omega
        have w1 : (U.size : Int) - p = ((U.size - p : Nat) : Int) := by omega
        have h46 : (⟨#[46]⟩ : ByteArray).size = 1 := rfl
        unfold dcDot at hs
        have hW : (U.extract 0 (U.size - p) ++ ⟨#[46]⟩ ++ U.extract (U.size - p) U.size).size ≤ 20000000000200 := by
          rw [size_app, size_app, size_ext U (by omega), size_ext U (by omega), h46]; omega
        by_cases v1 : q.num < 0
        · by_cases v2 : m = 0
          · rw [if_neg (by omega)] at hs
            subst v2
            simp (disch := omega) [w64, w1, h46, qsv_c0, nsv_c1, v1, dig_zero, hs]
            omega
          · have v3 : ¬ (dig 10000 m).length = 0 := fun h => v2 (dig4_zero.1 h)
            rw [if_pos (by simp [v1]; omega)] at hs
            simp (disch := omega) [w64, w1, h46, h45, qsv_c0, nsv_c1, v1, v3, hs]
            exact ⟨by omega, by omega, fun _ => by omega⟩
        · rw [if_neg (by simp [v1])] at hs
          simp (disch := omega) [w64, w1, h46, qsv_c0, nsv_c1, v1, hs]
          omega
theorem dig_odd {n : Nat} (h : 0 < (dig 10000 n).length) : lget ((dig 10000 n).map i64) 0 = i64 (n % 10000) := by
  have : n ≠ 0 := fun e => by subst e; simp [dig_zero] at h
  rw [dig_pos (by omega) this]; rfl
set_option maxRecDepth 20000 in
theorem dec_end {C : Ctx} (hC : C.fx = []) {q : Rat} {p A : Nat} (hq : qw 2200 q) (hp : p ≤ 60) (hA : A = q.num.natAbs * 10 ^ p) {s : ByteArray} (hs : s = dcTxt (decide (q.num < 0)) p (dcM A q.den)) :
    CodeJ Tryd.prog C (dropC 3 decBody) ⟨101, [(1, .val (.int .i64 p)), (2, .ptr 0 0 0)], [some ⟨4, [qsv q], false⟩]⟩ (retQ Tryd.prog [.tmp 4] (fun y => y = .val (.string s))) := by
  refine CodeJ.cutAt 6 (fun st => ∃ X B : Int, ∃ h r : Nat, ∃ c : Int, (dcM A q.den = if 0 < c ∨ (c = 0 ∧ h % 2 = 1) then h + 1 else h) ∧ fw 2300 (h : Nat) ∧ st = ⟨101, [(1, .val (.int .i64 p)), (2, .ptr 0 0 0), (7, .ptr 3 0 0), (11, .val (.int .i64 c)), (12, .val (.bool (decide (h % 2 = 1))))], [some ⟨4, [qsv q], false⟩, some ⟨2, [nsv X], false⟩, some ⟨2, [nsv B], false⟩, some ⟨2, [nsv h], false⟩, some ⟨2, [nsv r], false⟩, some ⟨2, [nsv (r + r)], false⟩]⟩) ?_ ?_
  · simp only [decBody, Tryd.f72, Option.getD_some, dropC_succ, dropC_zero, takeC_succ, takeC_zero]
    have ten := pTen_ok p (by omega)
    have r10 := rfitp (i := p) (by omega)
    have wn : fw 2200 ((q.num.natAbs : Nat) : Int) := by have := hq.1; unfold fw at *; simpa using this
    have wA : fw 2300 ((A : Nat) : Int) := by rw [hA]; have := fw_mul wn (fw_p10 (i := p) (by omega)); simpa using this
    have rn : rfit ((q.num.natAbs : Nat) : Int) := rfit_of wn (by omega)
    have rA : rfit ((A : Nat) : Int) := rfit_of wA (by omega)
    have rd : rfit ((q.den : Nat) : Int) := rfit_of hq.2 (by omega)
    have ml := rMul_ok ((q.num.natAbs : Nat) : Int) ((10 : Int) ^ p) rn r10
    rw [show ((q.num.natAbs : Nat) : Int) * (10 : Int) ^ p = ((A : Nat) : Int) by rw [hA]; push_cast; rfl] at ml
    rw [nsv_nat] at ml
    have dm := rDivMod_ok A q.den rA rd
    have hd := q.den_nz
    rw [if_neg (by omega), show decide ((q.den : Int) ≠ 0) = true from decide_eq_true (by omega), show ((A : Nat) : Int) / (q.den : Int) = ((A / q.den : Nat) : Int) from (Int.natCast_ediv _ _).symm, show ((A : Nat) : Int) % (q.den : Int) = ((A % q.den : Nat) : Int) from (Int.natCast_emod _ _).symm] at dm
    have rh : fw 2300 ((A / q.den : Nat) : Int) := fw_le (y := A) (by rw [Int.natAbs_natCast, Int.natAbs_natCast]; exact Nat.div_le_self _ _) wA
    have rh0 : rfit ((A / q.den : Nat) : Int) := rfit_le (x := A) (by rw [Int.natAbs_natCast, Int.natAbs_natCast]; exact Nat.div_le_self _ _) rA
    have rr : rfit ((A % q.den : Nat) : Int) := rfit_le (x := A) (by rw [Int.natAbs_natCast, Int.natAbs_natCast]; exact Nat.mod_le _ _) rA
    have rt : wid 10000 (((A % q.den : Nat) : Int) + ((A % q.den : Nat) : Int)).natAbs ≤ 4398046511104 := by
      have := wid_add (B := 10000) (by omega) (A % q.den) (A % q.den)
      have h2 : wid 10000 (A % q.den) ≤ 1000000000000 := by have := rr; unfold rfit at this; rwa [Int.natAbs_natCast] at this
      rw [show (((A % q.den : Nat) : Int) + ((A % q.den : Nat) : Int)).natAbs = A % q.den + A % q.den by omega]
      omega
    have ad := rAdd_ok _ _ rr rr
    have cp := rCmp_ok (((A % q.den : Nat) : Int) + ((A % q.den : Nat) : Int)) q.den rt (Nat.le_trans rd (by omega))
    have hM : dcM A q.den = if q.den < A % q.den + A % q.den ∨ (A % q.den + A % q.den = q.den ∧ A / q.den % 2 = 1) then A / q.den + 1 else A / q.den := rfl
    have hodd := dig_odd (n := A / q.den)
    have hzl := dig4_zero (n := A / q.den)
    generalize (10 : Int) ^ p = X at *
    generalize dcM A q.den = m at *
    generalize A / q.den = h at *
    generalize A % q.den = r at *
    simp
    refine callS ten (by simp) ?_
    simp [qsv_c1]
    refine callS ml (by simp) ?_
    simp
    refine callS dm (by simp) ?_
    simp
    refine callS ad (by simp) ?_
    simp
    refine callS cp (by simp) ?_
    have hM2 : m = if 0 < (if (r : Int) + r < q.den then (-1 : Int) else if (q.den : Int) < r + r then 1 else 0) ∨ ((if (r : Int) + r < q.den then (-1 : Int) else if (q.den : Int) < r + r then 1 else 0) = 0 ∧ h % 2 = 1) then h + 1 else h := by
      rw [hM]
      by_cases v1 : (r : Int) + r < q.den
      · rw [if_pos v1, if_neg (by omega), if_neg (by omega)]
      · rw [if_neg v1]
        by_cases v2 : (q.den : Int) < r + r
        · rw [if_pos v2, if_pos (by omega), if_pos (by omega)]
        · rw [if_neg v2]
          by_cases v3 : h % 2 = 1
          · rw [if_pos (by omega), if_pos (by omega)]
          · rw [if_neg (by omega), if_neg (by omega)]
    have hgt : (0 : Int) < (dig 10000 h).length ↔ h ≠ 0 := by omega
    by_cases hz : h = 0
    · simp [hz, nsv_c1, dig_zero]
      exact ⟨_, ⟨X, A, h, r, _, hM2, rh, rfl⟩, by simp [leS, hC, hz]⟩
    · have hz2 : 0 < (dig 10000 h).length := by omega
      have hz3 : ¬ h = 0 := hz
      have ho := hodd hz2
      have e2 : ((h : Int) % 10000).tmod 2 = 1 ↔ h % 2 = 1 := by rw [Int.tmod_eq_emod_of_nonneg (by omega)]; omega
      simp [nsv_c1, hz2, ho, i64]
      exact ⟨_, ⟨X, A, h, r, _, hM2, rh, rfl⟩, by simp [leS, hC, e2]⟩
  · rintro st ⟨X, B, h, r, c, hM, rh, rfl⟩
    have up := rAdd_ok ((h : Nat) : Int) 1 (rfit_of rh (by omega)) (rfit_small (by decide))
    have hh : ((h : Nat) : Int) + 1 = ((h + 1 : Nat) : Int) := by omega
    rw [hh] at up
    have rh1 : fw 2301 ((h + 1 : Nat) : Int) := by rw [← hh]; exact fw_add rh (fw_one (by omega))
    generalize dcM A q.den = m at *
    refine CodeJ.cutAt 1 (fun st => ∃ X B r tw : Int, st = ⟨101, [(1, .val (.int .i64 p)), (2, .ptr 0 0 0), (7, .ptr 3 0 0)], [some ⟨4, [qsv q], false⟩, some ⟨2, [nsv X], false⟩, some ⟨2, [nsv B], false⟩, some ⟨2, [nsv m], false⟩, some ⟨2, [nsv r], false⟩, some ⟨2, [nsv tw], false⟩]⟩) ?_ ?_
    · simp only [decBody, Tryd.f72, Option.getD_some, dropC_succ, dropC_zero, takeC_succ, takeC_zero]
      by_cases u1 : 0 < c
      · rw [if_pos (.inl u1)] at hM
        simp [u1]
        refine CodeJ.draw (.qs [0] <| .l 1 [] <| .l 2 [] <| .l 3 [3] <| .nil) (by kernel_rfl) (by kernel_rfl) (by simp) ?_
        simp
        refine callS (rSmall_ok 1 (by omega) (by omega)) (by simp) ?_
        simp
        refine callS up (by simp) ?_
        simp
        exact ⟨_, ⟨X, B, r, (r : Int) + r, rfl⟩, by simp [leS, hC, hM]⟩
      · by_cases u2 : c = 0
        · by_cases u3 : h % 2 = 1
          · rw [if_pos (.inr ⟨u2, u3⟩)] at hM
            simp [u2, u3]
            refine CodeJ.draw (.qs [0] <| .l 1 [] <| .l 2 [] <| .l 3 [3] <| .nil) (by kernel_rfl) (by kernel_rfl) (by simp) ?_
            simp
            refine callS (rSmall_ok 1 (by omega) (by omega)) (by simp) ?_
            simp
            refine callS up (by simp) ?_
            simp
            exact ⟨_, ⟨X, B, r, (r : Int) + r, rfl⟩, by simp [leS, hC, hM]⟩
          · rw [if_neg (by omega)] at hM
            simp [u2, u3]
            exact ⟨_, ⟨X, B, r, (r : Int) + r, rfl⟩, by simp [leS, hC, hM]⟩
        · rw [if_neg (by omega)] at hM
          simp [u1, u2]
          exact ⟨_, ⟨X, B, r, (r : Int) + r, rfl⟩, by simp [leS, hC, hM]⟩
    · rintro st ⟨X, B, r, tw, rfl⟩
      exact dec_fin hC hp (by rw [hM]; split; exact rh1; exact fw_mono rh (by omega)) hs
set_option maxRecDepth 20000 in
theorem pDecimal_ok (q : Rat) (n : Int) (hq : qw 2200 q) (h1 : -9223372036854775808 ≤ n) (h2 : n ≤ 9223372036854775807) : PureF Tryd.prog 72 [qsv q, .val (.int .i64 n)] (.val (.string (dcTxt (decide (q.num < 0)) (clp n) (dcM (q.num.natAbs * 10 ^ clp n) q.den)))) := by
  refine pure_enterJ Tryd.func72 rfl (by simp) (fun C hC => ?_)
  refine CodeJ.cutAt 3 (fun st => st = ⟨101, [(1, .val (.int .i64 (clp n))), (2, .ptr 0 0 0)], [some ⟨4, [qsv q], false⟩]⟩) ?_ ?_
  · by_cases k1 : n < 0
    · have e : clp n = 0 := by unfold clp; omega
      simp [k1]
      simp [leS, hC, e]
    · by_cases k2 : 60 < n
      · have e : clp n = 60 := by unfold clp; omega
        simp [k1, k2]
        simp [leS, hC, e]
      · have e : (clp n : Int) = n := by unfold clp; omega
        simp [k1, k2]
        simp [leS, hC, e]
  · rintro st rfl
    exact dec_end hC hq (clp_le n) rfl rfl
