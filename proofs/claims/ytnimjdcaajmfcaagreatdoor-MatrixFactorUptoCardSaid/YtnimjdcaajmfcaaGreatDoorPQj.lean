/- What the function Read of package ratio returns: its ways up to the exponent. A text of the prover's own. -/
import Derived.Test.YtnimjdcaajmfcaaGreatDoorPQi
namespace Go.Proofs
open Go.Sv Go Go.Pl
theorem sget_ext (s : ByteArray) {a b i : Nat} (h : a + i < b) (hb : b ≤ s.size) : sget (s.extract a b) i = sget s (a + i) := by
  unfold sget
  have hs : s.data.size = s.size := rfl
  rw [ByteArray.data_extract, Array.getD_eq_getD_getElem?, Array.getD_eq_getD_getElem?, Array.getElem?_extract]
  rw [if_pos (by omega)]
theorem size_ext (s : ByteArray) {a b : Nat} (hb : b ≤ s.size) : (s.extract a b).size = b - a := by simp; omega
theorem nv_ext (s : ByteArray) {a b : Nat} (hb : b ≤ s.size) : ∀ k, a + k ≤ b → nv (s.extract a b) 0 k = nv s a k
  | 0, _ => rfl
  | k + 1, h => by
    simp only [nv, Nat.zero_add, byt]
    rw [nv_ext s hb k (by omega), sget_ext s (by omega) hb]
theorem dig_ext {s : ByteArray} {a b : Nat} (hb : b ≤ s.size) (h : ∀ i, a ≤ i → i < b → digAt s i) : ∀ i, i < (s.extract a b).size → digAt (s.extract a b) i := fun i hi => by
  refine ⟨hi, ?_⟩
  rw [size_ext s hb] at hi
  unfold byt
  rw [sget_ext s (by omega) hb]
  exact (h (a + i) (by omega) (by omega)).2
theorem rd_digits {t : ByteArray} (h : ∀ i, i < t.size → digAt t i) (h0 : 0 < t.size) (h1 : t.size ≤ 300) : rd t = (((nv t 0 t.size : Nat) : Int), 0, 0) := by
  have hm : ¬ minus t := fun hm => by
    have := (h 0 h0).2.1
    have := hm.2
    omega
  have hs : sgnAt t = 0 := by simp [sgnAt, hm]
  have hd : dend t 0 = t.size := dend_eq (Nat.zero_le _) (fun i _ hi => h i hi) (fun h' => by have := h'.1; omega)
  unfold rd
  rw [hs, hd, if_neg (by omega), if_neg (by omega), if_neg hm]
  simp
theorem ext_ne {s : ByteArray} {a b : Nat} (hb : b ≤ s.size) (h : a < b) : s.extract a b ≠ ⟨#[]⟩ := fun e => by
  have := size_ext s (a := a) hb
  rw [e] at this
  have e0 : (⟨#[]⟩ : ByteArray).size = 0 := rfl
  omega
set_option exponentiation.threshold 1000 in
theorem fw_nv {s : ByteArray} {a k : Nat} (h : ∀ i, a ≤ i → i < a + k → digAt s i) (hk : k ≤ 400) : fw 400 (nv s a k : Nat) := by
  have := nv_lt h
  exact fw_mono (k := 100) (fw_le (y := ((10 ^ k : Nat) : Int)) (by simp only [Int.natAbs_natCast]; omega) (fw_p10 hk)) (by omega)
/-- what is returned, of what a text says -/
def outQ (r : Rat × Nat × Nat) : SV := .tup [rsv r.1, errSV r.2.1 r.2.2]
@[simp] theorem orF_some (e : Nat × Nat) (b : Bool) (c p : Nat) : orF (some e) b c p = some e := rfl
theorem outR_some (c p : Nat) (v : Rat) (hc : c ≠ 0) : outR (some (c, p)) v = outQ (0, c, p) := by simp [outR, outQ, errSV, hc]
theorem outR_none (v : Rat) (p : Nat) : outR none v = outQ (v, 0, p) := by simp [outR, outQ, errSV]
/-- where the head of the text is read -/
def IA (s : ByteArray) (st : St) : Prop := ∃ (T P Lw Pw : ByteArray) (a la pa : Nat) (E : Option (Nat × Nat)) (neg up : Bool) (t d : Nat),
  (∀ c p, E = some (c, p) → c = 1 ∨ c = 2 ∨ c = 3) ∧ (E = none → rd T = ((t : Int), 0, 0)) ∧ T.size ≤ 400 ∧ P.size ≤ 400 ∧ (∀ i, i < P.size → digAt P i) ∧ fw 400 d ∧ fw 400 t ∧
    ((Lw = ⟨#[]⟩ ∧ d = 1) ∨ (Lw ≠ ⟨#[]⟩ ∧ rd Lw = ((d : Int), 0, 0) ∧ Lw.size ≤ 400)) ∧ (∀ i, i < Pw.size → digAt Pw i) ∧ Pw.size ≤ 400 ∧
    outR (orF (orF (orF E (decide (a < s.size)) 1 a) (decide (60 < nv Pw 0 Pw.size)) 2 pa) (decide (Lw ≠ ⟨#[]⟩) && decide (d = 0)) 3 la) (valR neg up t P (min (nv Pw 0 Pw.size) 61) d) = outQ (qrd 300 s) ∧
    st = ⟨151, [(0, .val (.string s)), (2, .ptr 0 0 0), (3, .val .nilIface), (4, .ptr 1 0 0), (5, .val (.bool neg)), (6, .val (.string T)), (7, .val (.string P)), (8, .val (.string Lw)), (9, .val (.string Pw)), (10, .val (.bool up)), (11, .val (.int .i64 la)), (12, .val (.int .i64 pa))], MR s a E⟩
theorem fw1 : fw 400 ((1 : Nat) : Int) := fw_one (by omega)
/-- a fault at the head -/
theorem IA.err {s T : ByteArray} {a la pa : Nat} {c p : Nat} {neg up : Bool} {st : St} (hc : c = 1 ∨ c = 2 ∨ c = 3) (hT : T.size ≤ 400) (hq : qrd 300 s = (0, c, p))
    (h : st = ⟨151, [(0, .val (.string s)), (2, .ptr 0 0 0), (3, .val .nilIface), (4, .ptr 1 0 0), (5, .val (.bool neg)), (6, .val (.string T)), (7, .val (.string ⟨#[]⟩)), (8, .val (.string ⟨#[]⟩)), (9, .val (.string ⟨#[]⟩)), (10, .val (.bool up)), (11, .val (.int .i64 la)), (12, .val (.int .i64 pa))], MR s a (some (c, p))⟩) : IA s st :=
  ⟨T, ⟨#[]⟩, ⟨#[]⟩, ⟨#[]⟩, a, la, pa, some (c, p), neg, up, 0, 1, fun c' p' h' => by simp only [Option.some.injEq, Prod.mk.injEq] at h'; omega, fun h' => (by cases h'), hT, Nat.zero_le _, fun i hi => absurd hi (Nat.not_lt_zero _), fw1, fw_zero _, .inl ⟨rfl, rfl⟩,
    fun i hi => absurd hi (Nat.not_lt_zero _), Nat.zero_le _, by simp only [orF_some]; rw [outR_some _ _ _ (by omega), hq], h⟩

theorem e_size : (⟨#[]⟩ : ByteArray).size = 0 := rfl
theorem e_nv : nv ⟨#[]⟩ 0 (⟨#[]⟩ : ByteArray).size = 0 := rfl
theorem e_all (Q : Nat → Prop) : ∀ i, i < (⟨#[]⟩ : ByteArray).size → Q i := fun i hi => absurd hi (Nat.not_lt_zero _)
theorem sgnd_eq {s : ByteArray} {neg : Bool} (h : decide (minus s) = neg) (n : Nat) : sgnd s n = if neg = true then -(n : Int) else (n : Int) := by
  unfold sgnd; rw [← h]; by_cases hm : minus s <;> simp [hm]
/-- behind a slash -/
theorem eq_slash {s Lw : ByteArray} {e b tv d : Nat} {neg : Bool} (hn : decide (minus s) = neg) (hL : Lw ≠ ⟨#[]⟩) (hbs : b ≤ s.size) (hb : e + 1 < b) (hd : d = nv s (e + 1) (b - (e + 1))) :
    outR (orF (orF (orF none (decide (b < s.size)) 1 b) (decide (60 < nv ⟨#[]⟩ 0 (⟨#[]⟩ : ByteArray).size)) 2 0) (decide (Lw ≠ ⟨#[]⟩) && decide (d = 0)) 3 (e + 1)) (valR neg true tv ⟨#[]⟩ (min (nv ⟨#[]⟩ 0 (⟨#[]⟩ : ByteArray).size) 61) d) =
      outQ (if b = e + 1 ∨ b < s.size then (0, 1, b) else if nv s (e + 1) (s.size - (e + 1)) = 0 then (0, 3, e + 1) else (Rat.divInt (sgnd s tv) (nv s (e + 1) (s.size - (e + 1)) : Int), 0, 0)) := by
  rw [e_nv]
  by_cases l1 : b < s.size
  · rw [if_pos (.inr l1)]
    simp only [orF, l1, decide_true, if_true]
    exact outR_some _ _ _ (by omega)
  · rw [if_neg (show ¬ (b = e + 1 ∨ b < s.size) by omega), show s.size - (e + 1) = b - (e + 1) by omega, ← hd]
    by_cases l2 : d = 0
    · simp only [orF, l1, l2, hL, if_true, decide_false, Bool.false_eq_true, if_false, Nat.not_lt_zero, ne_eq, not_false_eq_true, decide_true, Bool.and_self]
      exact outR_some _ _ _ (by omega)
    · simp only [orF, l1, l2, hL, if_false, decide_false, Bool.false_eq_true, Nat.not_lt_zero, ne_eq, not_false_eq_true, decide_true, Bool.and_false]
      rw [outR_none _ 0, sgnd_eq hn]
      unfold valR
      simp [e_size, nv]
/-- no exponent -/
theorem eq_noexp {s P : ByteArray} {e tv : Nat} {neg : Bool} (hn : decide (minus s) = neg) (he : e ≤ s.size) (g : ¬ isAt s e 101) :
    outR (orF (orF (orF none (decide (e < s.size)) 1 e) (decide (60 < nv ⟨#[]⟩ 0 (⟨#[]⟩ : ByteArray).size)) 2 0) (decide ((⟨#[]⟩ : ByteArray) ≠ ⟨#[]⟩) && decide ((1 : Nat) = 0)) 3 0) (valR neg true tv P (min (nv ⟨#[]⟩ 0 (⟨#[]⟩ : ByteArray).size) 61) 1) =
      outQ (qtail s (tv * 10 ^ P.size + nv P 0 P.size) P.size e) := by
  rw [e_nv]
  unfold qtail
  rw [if_neg g]
  by_cases l1 : e < s.size
  · rw [if_pos l1]
    simp only [orF, l1, decide_true, if_true]
    exact outR_some _ _ _ (by omega)
  · rw [if_neg l1]
    simp only [orF, l1, if_false, decide_false, Bool.false_eq_true, Nat.not_lt_zero, ne_eq, not_true, Bool.false_and]
    rw [outR_none _ 0, sgnd_eq hn]
    unfold valR
    simp
/-- an exponent -/
theorem eq_exp {s P W : ByteArray} {e b c tv : Nat} {neg up : Bool} (hn : decide (minus s) = neg) (hcs : c ≤ s.size) (g : isAt s e 101) (hb : expAt s e = b) (hu : up = true ↔ ¬ isAt s (e + 1) 45) (hc : dend s b = c) (hbc : b < c) (h3 : ¬ b + 300 < c) (hW : nv W 0 W.size = nv s b (c - b)) :
    outR (orF (orF (orF none (decide (c < s.size)) 1 c) (decide (60 < nv W 0 W.size)) 2 b) (decide ((⟨#[]⟩ : ByteArray) ≠ ⟨#[]⟩) && decide ((1 : Nat) = 0)) 3 0) (valR neg up tv P (min (nv W 0 W.size) 61) 1) =
      outQ (qtail s (tv * 10 ^ P.size + nv P 0 P.size) P.size e) := by
  unfold qtail
  rw [if_pos g, hb, hc, if_neg h3, hW]
  by_cases l1 : c < s.size
  · rw [if_pos (.inr l1)]
    simp only [orF, l1, decide_true, if_true]
    exact outR_some _ _ _ (by omega)
  · rw [if_neg (show ¬ (c = b ∨ c < s.size) by omega), show s.size - b = c - b by omega]
    generalize nv s b (c - b) = x at *
    by_cases l2 : 60 < x
    · rw [if_pos l2]
      simp only [orF, l1, l2, if_true, decide_false, Bool.false_eq_true, if_false, decide_true]
      exact outR_some _ _ _ (by omega)
    · rw [if_neg l2]
      simp only [orF, l1, l2, if_false, decide_false, Bool.false_eq_true, ne_eq, not_true, Bool.false_and]
      rw [outR_none _ 0, show min x 61 = x by omega]
      unfold valR
      cases up with
      | true =>
        rw [if_neg (hu.1 rfl), sgnd_eq hn]
        simp
      | false =>
        rw [if_pos (show isAt s (e + 1) 45 from Classical.byContradiction fun h => by have := hu.2 h; cases this), sgnd_eq hn]
        simp [Nat.pow_add]
/-- the state behind the first digits -/
def st5 (s T : ByteArray) (neg : Bool) (a : Nat) (E : Option (Nat × Nat)) : St := ⟨151, [(0, .val (.string s)), (2, .ptr 0 0 0), (3, .val .nilIface), (4, .ptr 1 0 0), (5, .val (.bool neg)), (6, .val (.string T)), (7, .val (.string ⟨#[]⟩)), (8, .val (.string ⟨#[]⟩)), (9, .val (.string ⟨#[]⟩)), (10, .val (.bool true)), (11, .val (.int .i64 0)), (12, .val (.int .i64 0))], MR s a E⟩
/-- a fault behind a point -/
theorem IA.errP {s T P : ByteArray} {a pa : Nat} {c p : Nat} {neg up : Bool} {st : St} (hc : c = 1 ∨ c = 2 ∨ c = 3) (hT : T.size ≤ 400) (hP : P.size ≤ 400) (hPd : ∀ i, i < P.size → digAt P i) (hq : qrd 300 s = (0, c, p))
    (h : st = ⟨151, [(0, .val (.string s)), (2, .ptr 0 0 0), (3, .val .nilIface), (4, .ptr 1 0 0), (5, .val (.bool neg)), (6, .val (.string T)), (7, .val (.string P)), (8, .val (.string ⟨#[]⟩)), (9, .val (.string ⟨#[]⟩)), (10, .val (.bool up)), (11, .val (.int .i64 0)), (12, .val (.int .i64 pa))], MR s a (some (c, p))⟩) : IA s st :=
  ⟨T, P, ⟨#[]⟩, ⟨#[]⟩, a, 0, pa, some (c, p), neg, up, 0, 1, fun c' p' h' => by simp only [Option.some.injEq, Prod.mk.injEq] at h'; omega, fun h' => (by cases h'), hT, hP, hPd, fw1, fw_zero _, .inl ⟨rfl, rfl⟩,
    e_all _, Nat.zero_le _, by simp only [orF_some]; rw [outR_some _ _ _ (by omega), hq], h⟩
set_option maxRecDepth 20000 in
theorem head_err {C : Ctx} {Q : Post} (hC : C.fx = []) {s T : ByteArray} {neg : Bool} {a c p : Nat} (hTz : T.size ≤ 300) (hc : c = 1 ∨ c = 2 ∨ c = 3) (hq : qrd 300 s = (0, c, p)) : vc Tryz.prog C (takeC 1 (dropC 5 readBody)) (st5 s T neg a (some (c, p))) (cutQ C (IA s) Q) (cutQ C (IA s) Q) := by
  simp only [readBody, Tryz.f110, Option.getD_some, dropC_succ, dropC_zero, takeC_succ, takeC_zero]
  simp [st5, MR]
  refine is_err s a 47 (k2 := 2) (by simp [tget, rdr]) (by simp) ?_
  simp
  refine is_err s a 46 (k2 := 2) (by simp [tget, rdr]) (by simp) ?_
  simp
  refine is_err s a 101 (k2 := 2) (by simp [tget, rdr]) (by simp) ?_
  simp
  exact ⟨_, IA.err (T := T) (a := a) (la := 0) (pa := 0) (neg := neg) (up := true) hc (by omega) hq rfl, by simp [leS, hC, MR, flt, rdr, z4]⟩
set_option maxRecDepth 20000 in
theorem head_slash {C : Ctx} {Q : Post} (hC : C.fx = []) {s T : ByteArray} {neg : Bool} {e tv : Nat} (hs : s.size ≤ 4611686018427387904) (hn : decide (minus s) = neg) (hes : e ≤ s.size) (hT : rd T = ((tv : Int), 0, 0)) (hTz : T.size ≤ 300) (ht : fw 400 (tv : Nat)) (g : isAt s e 47)
    (hq0 : qrd 300 s = if e + 1 + 300 < dend s (e + 1) then (0, 2, e + 1 + 300) else if dend s (e + 1) = e + 1 ∨ dend s (e + 1) < s.size then (0, 1, dend s (e + 1)) else if nv s (e + 1) (s.size - (e + 1)) = 0 then (0, 3, e + 1) else (Rat.divInt (sgnd s tv) (nv s (e + 1) (s.size - (e + 1)) : Int), 0, 0)) : vc Tryz.prog C (takeC 1 (dropC 5 readBody)) (st5 s T neg e none) (cutQ C (IA s) Q) (cutQ C (IA s) Q) := by
  simp only [readBody, Tryz.f110, Option.getD_some, dropC_succ, dropC_zero, takeC_succ, takeC_zero]
  simp [st5, MR]
  have hg := g.1
  refine is_here s e 47 (by simp [tget, rdr]) hs (by omega) (by simp) (fun _ => ?_) (fun g' => absurd g g')
  simp [rdr]
  refine digits_here s (e + 1) (by simp [tget, rdr]) hs (by omega) (by simp) (fun k1 => ?_) (fun k1 => ?_) (fun k1 k2 => ?_)
  · have hq : qrd 300 s = (0, 2, e + 1 + 300) := by rw [hq0, if_pos k1]
    simp
    exact ⟨_, IA.err (T := T) (a := e + 1 + 300) (la := e + 1) (pa := 0) (neg := neg) (up := true) (by omega) (by omega) hq rfl, by simp [leS, hC, MR, flt, rdr, z4]⟩
  · have hq : qrd 300 s = (0, 1, e + 1) := by rw [hq0, if_neg (by omega), if_pos (.inl k1), k1]
    simp
    exact ⟨_, IA.err (T := T) (a := e + 1) (la := e + 1) (pa := 0) (neg := neg) (up := true) (by omega) (by omega) hq rfl, by simp [leS, hC, MR, flt, rdr, z4]⟩
  · obtain ⟨b, hb⟩ : ∃ b, b = dend s (e + 1) := ⟨_, rfl⟩
    have hbs := dend_le (s := s) (a := e + 1) (by omega)
    have hLd := fun i (h1 : e + 1 ≤ i) (h2 : i < b) => dend_dig (s := s) (a := e + 1) h1 (hb ▸ h2)
    rw [← hb] at k1 k2 hbs hq0
    rw [if_neg k1] at hq0
    have hLz := size_ext s (a := e + 1) hbs
    have hL := rd_digits (dig_ext hbs hLd) (by omega) (by omega)
    rw [hLz, nv_ext s hbs _ (by omega)] at hL
    have hd : fw 400 (nv s (e + 1) (b - (e + 1)) : Nat) := fw_nv (fun i i1 i2 => hLd i i1 (by omega)) (by omega)
    have hLn := ext_ne hbs (show e + 1 < b by omega)
    rw [← hb]
    have hL4 : (s.extract (e + 1) b).size ≤ 400 := by omega
    have fin := eq_slash (tv := tv) hn hLn hbs (by omega) (d := nv s (e + 1) (b - (e + 1))) rfl
    rw [← hq0] at fin
    generalize s.extract (e + 1) b = Lw at *
    simp
    exact ⟨_, ⟨T, ⟨#[]⟩, Lw, ⟨#[]⟩, b, e + 1, 0, none, neg, true, tv, nv s (e + 1) (b - (e + 1)), by simp, fun _ => hT, by omega, Nat.zero_le _, e_all _, hd, ht, .inr ⟨hLn, hL, hL4⟩, e_all _, Nat.zero_le _, fin, rfl⟩, by simp [leS, hC, MR, flt, rdr, z4]⟩
set_option maxRecDepth 20000 in
theorem head_dot0 {C : Ctx} {Q : Post} (hC : C.fx = []) {s T : ByteArray} {neg : Bool} {e tv : Nat} (hs : s.size ≤ 4611686018427387904) (hn : decide (minus s) = neg) (hes : e ≤ s.size) (hT : rd T = ((tv : Int), 0, 0)) (hTz : T.size ≤ 300) (ht : fw 400 (tv : Nat)) (g0 : ¬ isAt s e 47) (g : isAt s e 46) (hk : e + 1 + 300 < dend s (e + 1) ∨ dend s (e + 1) = e + 1)
    (hq0 : qrd 300 s = if e + 1 + 300 < dend s (e + 1) then (0, 2, e + 1 + 300) else if dend s (e + 1) = e + 1 then (0, 1, e + 1) else qtail s (tv * 10 ^ (dend s (e + 1) - (e + 1)) + nv s (e + 1) (dend s (e + 1) - (e + 1))) (dend s (e + 1) - (e + 1)) (dend s (e + 1))) : vc Tryz.prog C (takeC 1 (dropC 5 readBody)) (st5 s T neg e none) (cutQ C (IA s) Q) (cutQ C (IA s) Q) := by
  simp only [readBody, Tryz.f110, Option.getD_some, dropC_succ, dropC_zero, takeC_succ, takeC_zero]
  simp [st5, MR]
  have hg := g.1
  refine is_here s e 47 (by simp [tget, rdr]) hs (by omega) (by simp) (fun g' => absurd g' g0) (fun _ => ?_)
  simp
  refine is_here s e 46 (by simp [tget, rdr]) hs (by omega) (by simp) (fun _ => ?_) (fun g' => absurd g g')
  simp [rdr]
  refine digits_here s (e + 1) (by simp [tget, rdr]) hs (by omega) (by simp) (fun k1 => ?_) (fun k1 => ?_) (fun k1 k2 => by omega)
  · have hq : qrd 300 s = (0, 2, e + 1 + 300) := by rw [hq0, if_pos k1]
    simp
    refine is_err s (e + 1 + 300) 101 (k2 := 2) (by simp [tget, rdr]) (by simp) ?_
    simp
    exact ⟨_, IA.err (T := T) (a := e + 1 + 300) (la := 0) (pa := 0) (neg := neg) (up := true) (by omega) (by omega) hq rfl, by simp [leS, hC, MR, flt, rdr, z4]⟩
  · have hq : qrd 300 s = (0, 1, e + 1) := by rw [hq0, if_neg (by omega), if_pos k1]
    simp
    refine is_err s (e + 1) 101 (k2 := 2) (by simp [tget, rdr]) (by simp) ?_
    simp
    exact ⟨_, IA.err (T := T) (a := e + 1) (la := 0) (pa := 0) (neg := neg) (up := true) (by omega) (by omega) hq rfl, by simp [leS, hC, MR, flt, rdr, z4]⟩
set_option maxRecDepth 20000 in
theorem head_dx0 {C : Ctx} {Q : Post} (hC : C.fx = []) {s T : ByteArray} {neg : Bool} {e tv : Nat} (hs : s.size ≤ 4611686018427387904) (hn : decide (minus s) = neg) (hes : e ≤ s.size) (hT : rd T = ((tv : Int), 0, 0)) (hTz : T.size ≤ 300) (ht : fw 400 (tv : Nat)) (g0 : ¬ isAt s e 47) (g : isAt s e 46) (hk1 : ¬ e + 1 + 300 < dend s (e + 1)) (hk2 : e + 1 < dend s (e + 1)) {f : Nat} (hf : f = dend s (e + 1)) {P : ByteArray} (hPe : P = s.extract (e + 1) f) (hPz : P.size = f - (e + 1)) (hPd : ∀ i, i < P.size → digAt P i) (hfs : f ≤ s.size) (hq0 : qrd 300 s = qtail s (tv * 10 ^ P.size + nv P 0 P.size) P.size f) (x0 : ¬ isAt s f 101) : vc Tryz.prog C (takeC 1 (dropC 5 readBody)) (st5 s T neg e none) (cutQ C (IA s) Q) (cutQ C (IA s) Q) := by
  simp only [readBody, Tryz.f110, Option.getD_some, dropC_succ, dropC_zero, takeC_succ, takeC_zero]
  simp [st5, MR]
  have hg := g.1
  refine is_here s e 47 (by simp [tget, rdr]) hs (by omega) (by simp) (fun g' => absurd g' g0) (fun _ => ?_)
  simp
  refine is_here s e 46 (by simp [tget, rdr]) hs (by omega) (by simp) (fun _ => ?_) (fun g' => absurd g g')
  simp [rdr]
  refine digits_here s (e + 1) (by simp [tget, rdr]) hs (by omega) (by simp) (fun k1 => by omega) (fun k1 => by omega) (fun _ _ => ?_)
  rw [← hf, ← hPe]
  simp [rdr]
  refine is_here s f 101 (by simp [tget, rdr]) hs (by omega) (by simp) (fun g' => absurd g' x0) (fun _ => ?_)
  have fin := eq_noexp (P := P) (tv := tv) hn hfs x0
  rw [← hq0] at fin
  simp
  exact ⟨_, ⟨T, P, ⟨#[]⟩, ⟨#[]⟩, f, 0, 0, none, neg, true, tv, 1, by simp, fun _ => hT, by omega, by omega, hPd, fw1, ht, .inl ⟨rfl, rfl⟩, e_all _, Nat.zero_le _, fin, rfl⟩, by simp [leS, hC, MR, flt, rdr, z4]⟩
set_option maxRecDepth 20000 in
theorem head_dx1 {C : Ctx} {Q : Post} (hC : C.fx = []) {s T : ByteArray} {neg : Bool} {e tv : Nat} (hs : s.size ≤ 4611686018427387904) (hn : decide (minus s) = neg) (hes : e ≤ s.size) (hT : rd T = ((tv : Int), 0, 0)) (hTz : T.size ≤ 300) (ht : fw 400 (tv : Nat)) (g0 : ¬ isAt s e 47) (g : isAt s e 46) (hk1 : ¬ e + 1 + 300 < dend s (e + 1)) (hk2 : e + 1 < dend s (e + 1)) {f : Nat} (hf : f = dend s (e + 1)) {P : ByteArray} (hPe : P = s.extract (e + 1) f) (hPz : P.size = f - (e + 1)) (hPd : ∀ i, i < P.size → digAt P i) (hfs : f ≤ s.size) (hq0 : qrd 300 s = qtail s (tv * 10 ^ P.size + nv P 0 P.size) P.size f) (x0 : isAt s f 101) (x1 : isAt s (f + 1) 45) : vc Tryz.prog C (takeC 1 (dropC 5 readBody)) (st5 s T neg e none) (cutQ C (IA s) Q) (cutQ C (IA s) Q) := by
  simp only [readBody, Tryz.f110, Option.getD_some, dropC_succ, dropC_zero, takeC_succ, takeC_zero]
  simp [st5, MR]
  have hg := g.1
  refine is_here s e 47 (by simp [tget, rdr]) hs (by omega) (by simp) (fun g' => absurd g' g0) (fun _ => ?_)
  simp
  refine is_here s e 46 (by simp [tget, rdr]) hs (by omega) (by simp) (fun _ => ?_) (fun g' => absurd g g')
  simp [rdr]
  refine digits_here s (e + 1) (by simp [tget, rdr]) hs (by omega) (by simp) (fun k1 => by omega) (fun k1 => by omega) (fun _ _ => ?_)
  rw [← hf, ← hPe]
  simp [rdr]
  have hx0 := x0.1
  refine is_here s f 101 (by simp [tget, rdr]) hs (by omega) (by simp) (fun _ => ?_) (fun g' => absurd x0 g')
  simp [rdr]
  have hx1 := x1.1
  have hb : expAt s f = f + 1 + 1 := by unfold expAt; rw [if_pos (.inl x1)]
  refine is_here s (f + 1) 45 (by simp [tget, rdr]) hs (by omega) (by simp) (fun _ => ?_) (fun g' => absurd x1 g')
  simp [rdr]
  refine digits_here s (f + 1 + 1) (by simp [tget, rdr]) hs (by omega) (by simp) (fun k1 => ?_) (fun k1 => ?_) (fun k1 k2 => ?_)
  · have hq : qrd 300 s = (0, 2, f + 1 + 1 + 300) := by rw [hq0]; unfold qtail; rw [if_pos x0, hb, if_pos k1]
    simp [rdr]
    exact ⟨_, IA.errP (T := T) (P := P) (a := f + 1 + 1 + 300) (pa := f + 1 + 1) (neg := neg) (up := false) (by omega) (by omega) (by omega) hPd hq rfl, by simp [leS, hC, MR, flt, rdr, z4]⟩
  · have hq : qrd 300 s = (0, 1, f + 1 + 1) := by rw [hq0]; unfold qtail; rw [if_pos x0, hb, if_neg (by omega), if_pos (.inl k1), k1]
    simp [rdr]
    exact ⟨_, IA.errP (T := T) (P := P) (a := f + 1 + 1) (pa := f + 1 + 1) (neg := neg) (up := false) (by omega) (by omega) (by omega) hPd hq rfl, by simp [leS, hC, MR, flt, rdr, z4]⟩
  · obtain ⟨c, hc⟩ : ∃ c, c = dend s (f + 1 + 1) := ⟨_, rfl⟩
    have hcs := dend_le (s := s) (a := f + 1 + 1) (by omega)
    have hWd := fun i (h1 : f + 1 + 1 ≤ i) (h2 : i < c) => dend_dig (s := s) (a := f + 1 + 1) h1 (hc ▸ h2)
    rw [← hc] at k1 k2 hcs
    have hWz := size_ext s (a := f + 1 + 1) hcs
    have hWn := nv_ext s (a := f + 1 + 1) hcs (c - (f + 1 + 1)) (by omega)
    rw [← hWz] at hWn
    have hWa := dig_ext hcs hWd
    rw [← hc]
    generalize s.extract (f + 1 + 1) c = W at *
    rw [hWz] at hWn
    have hW4 : W.size ≤ 400 := by omega
    have fin := eq_exp (P := P) (W := W) (tv := tv) (up := false) hn hcs x0 hb (by simp [x1]) hc.symm k2 k1 (by rw [hWz]; exact hWn)
    rw [← hq0] at fin
    simp [rdr]
    exact ⟨_, ⟨T, P, ⟨#[]⟩, W, c, 0, f + 1 + 1, none, neg, false, tv, 1, by simp, fun _ => hT, by omega, by omega, hPd, fw1, ht, .inl ⟨rfl, rfl⟩, hWa, hW4, fin, rfl⟩, by simp [leS, hC, MR, flt, rdr, z4]⟩
set_option maxRecDepth 20000 in
theorem head_dx2 {C : Ctx} {Q : Post} (hC : C.fx = []) {s T : ByteArray} {neg : Bool} {e tv : Nat} (hs : s.size ≤ 4611686018427387904) (hn : decide (minus s) = neg) (hes : e ≤ s.size) (hT : rd T = ((tv : Int), 0, 0)) (hTz : T.size ≤ 300) (ht : fw 400 (tv : Nat)) (g0 : ¬ isAt s e 47) (g : isAt s e 46) (hk1 : ¬ e + 1 + 300 < dend s (e + 1)) (hk2 : e + 1 < dend s (e + 1)) {f : Nat} (hf : f = dend s (e + 1)) {P : ByteArray} (hPe : P = s.extract (e + 1) f) (hPz : P.size = f - (e + 1)) (hPd : ∀ i, i < P.size → digAt P i) (hfs : f ≤ s.size) (hq0 : qrd 300 s = qtail s (tv * 10 ^ P.size + nv P 0 P.size) P.size f) (x0 : isAt s f 101) (x1 : ¬ isAt s (f + 1) 45) (x2 : isAt s (f + 1) 43) : vc Tryz.prog C (takeC 1 (dropC 5 readBody)) (st5 s T neg e none) (cutQ C (IA s) Q) (cutQ C (IA s) Q) := by
  simp only [readBody, Tryz.f110, Option.getD_some, dropC_succ, dropC_zero, takeC_succ, takeC_zero]
  simp [st5, MR]
  have hg := g.1
  refine is_here s e 47 (by simp [tget, rdr]) hs (by omega) (by simp) (fun g' => absurd g' g0) (fun _ => ?_)
  simp
  refine is_here s e 46 (by simp [tget, rdr]) hs (by omega) (by simp) (fun _ => ?_) (fun g' => absurd g g')
  simp [rdr]
  refine digits_here s (e + 1) (by simp [tget, rdr]) hs (by omega) (by simp) (fun k1 => by omega) (fun k1 => by omega) (fun _ _ => ?_)
  rw [← hf, ← hPe]
  simp [rdr]
  have hx0 := x0.1
  refine is_here s f 101 (by simp [tget, rdr]) hs (by omega) (by simp) (fun _ => ?_) (fun g' => absurd x0 g')
  simp [rdr]
  have hx1 := x2.1
  have hb : expAt s f = f + 1 + 1 := by unfold expAt; rw [if_pos (.inr x2)]
  refine is_here s (f + 1) 45 (by simp [tget, rdr]) hs (by omega) (by simp) (fun g' => absurd g' x1) (fun _ => ?_)
  simp [rdr]
  refine is_here s (f + 1) 43 (by simp [tget, rdr]) hs (by omega) (by simp) (fun _ => ?_) (fun g' => absurd x2 g')
  simp [rdr]
  refine digits_here s (f + 1 + 1) (by simp [tget, rdr]) hs (by omega) (by simp) (fun k1 => ?_) (fun k1 => ?_) (fun k1 k2 => ?_)
  · have hq : qrd 300 s = (0, 2, f + 1 + 1 + 300) := by rw [hq0]; unfold qtail; rw [if_pos x0, hb, if_pos k1]
    simp [rdr]
    exact ⟨_, IA.errP (T := T) (P := P) (a := f + 1 + 1 + 300) (pa := f + 1 + 1) (neg := neg) (up := true) (by omega) (by omega) (by omega) hPd hq rfl, by simp [leS, hC, MR, flt, rdr, z4]⟩
  · have hq : qrd 300 s = (0, 1, f + 1 + 1) := by rw [hq0]; unfold qtail; rw [if_pos x0, hb, if_neg (by omega), if_pos (.inl k1), k1]
    simp [rdr]
    exact ⟨_, IA.errP (T := T) (P := P) (a := f + 1 + 1) (pa := f + 1 + 1) (neg := neg) (up := true) (by omega) (by omega) (by omega) hPd hq rfl, by simp [leS, hC, MR, flt, rdr, z4]⟩
  · obtain ⟨c, hc⟩ : ∃ c, c = dend s (f + 1 + 1) := ⟨_, rfl⟩
    have hcs := dend_le (s := s) (a := f + 1 + 1) (by omega)
    have hWd := fun i (h1 : f + 1 + 1 ≤ i) (h2 : i < c) => dend_dig (s := s) (a := f + 1 + 1) h1 (hc ▸ h2)
    rw [← hc] at k1 k2 hcs
    have hWz := size_ext s (a := f + 1 + 1) hcs
    have hWn := nv_ext s (a := f + 1 + 1) hcs (c - (f + 1 + 1)) (by omega)
    rw [← hWz] at hWn
    have hWa := dig_ext hcs hWd
    rw [← hc]
    generalize s.extract (f + 1 + 1) c = W at *
    rw [hWz] at hWn
    have hW4 : W.size ≤ 400 := by omega
    have fin := eq_exp (P := P) (W := W) (tv := tv) (up := true) hn hcs x0 hb (by simp [x1]) hc.symm k2 k1 (by rw [hWz]; exact hWn)
    rw [← hq0] at fin
    simp [rdr]
    exact ⟨_, ⟨T, P, ⟨#[]⟩, W, c, 0, f + 1 + 1, none, neg, true, tv, 1, by simp, fun _ => hT, by omega, by omega, hPd, fw1, ht, .inl ⟨rfl, rfl⟩, hWa, hW4, fin, rfl⟩, by simp [leS, hC, MR, flt, rdr, z4]⟩
set_option maxRecDepth 20000 in
theorem head_dx3 {C : Ctx} {Q : Post} (hC : C.fx = []) {s T : ByteArray} {neg : Bool} {e tv : Nat} (hs : s.size ≤ 4611686018427387904) (hn : decide (minus s) = neg) (hes : e ≤ s.size) (hT : rd T = ((tv : Int), 0, 0)) (hTz : T.size ≤ 300) (ht : fw 400 (tv : Nat)) (g0 : ¬ isAt s e 47) (g : isAt s e 46) (hk1 : ¬ e + 1 + 300 < dend s (e + 1)) (hk2 : e + 1 < dend s (e + 1)) {f : Nat} (hf : f = dend s (e + 1)) {P : ByteArray} (hPe : P = s.extract (e + 1) f) (hPz : P.size = f - (e + 1)) (hPd : ∀ i, i < P.size → digAt P i) (hfs : f ≤ s.size) (hq0 : qrd 300 s = qtail s (tv * 10 ^ P.size + nv P 0 P.size) P.size f) (x0 : isAt s f 101) (x1 : ¬ isAt s (f + 1) 45) (x2 : ¬ isAt s (f + 1) 43) : vc Tryz.prog C (takeC 1 (dropC 5 readBody)) (st5 s T neg e none) (cutQ C (IA s) Q) (cutQ C (IA s) Q) := by
  simp only [readBody, Tryz.f110, Option.getD_some, dropC_succ, dropC_zero, takeC_succ, takeC_zero]
  simp [st5, MR]
  have hg := g.1
  refine is_here s e 47 (by simp [tget, rdr]) hs (by omega) (by simp) (fun g' => absurd g' g0) (fun _ => ?_)
  simp
  refine is_here s e 46 (by simp [tget, rdr]) hs (by omega) (by simp) (fun _ => ?_) (fun g' => absurd g g')
  simp [rdr]
  refine digits_here s (e + 1) (by simp [tget, rdr]) hs (by omega) (by simp) (fun k1 => by omega) (fun k1 => by omega) (fun _ _ => ?_)
  rw [← hf, ← hPe]
  simp [rdr]
  have hx0 := x0.1
  refine is_here s f 101 (by simp [tget, rdr]) hs (by omega) (by simp) (fun _ => ?_) (fun g' => absurd x0 g')
  simp [rdr]
  have hb : expAt s f = f + 1 := by unfold expAt; rw [if_neg (fun h => h.elim x1 x2)]
  refine is_here s (f + 1) 45 (by simp [tget, rdr]) hs (by omega) (by simp) (fun g' => absurd g' x1) (fun _ => ?_)
  simp [rdr]
  refine is_here s (f + 1) 43 (by simp [tget, rdr]) hs (by omega) (by simp) (fun g' => absurd g' x2) (fun _ => ?_)
  simp [rdr]
  refine digits_here s (f + 1) (by simp [tget, rdr]) hs (by omega) (by simp) (fun k1 => ?_) (fun k1 => ?_) (fun k1 k2 => ?_)
  · have hq : qrd 300 s = (0, 2, f + 1 + 300) := by rw [hq0]; unfold qtail; rw [if_pos x0, hb, if_pos k1]
    simp [rdr]
    exact ⟨_, IA.errP (T := T) (P := P) (a := f + 1 + 300) (pa := f + 1) (neg := neg) (up := true) (by omega) (by omega) (by omega) hPd hq rfl, by simp [leS, hC, MR, flt, rdr, z4]⟩
  · have hq : qrd 300 s = (0, 1, f + 1) := by rw [hq0]; unfold qtail; rw [if_pos x0, hb, if_neg (by omega), if_pos (.inl k1), k1]
    simp [rdr]
    exact ⟨_, IA.errP (T := T) (P := P) (a := f + 1) (pa := f + 1) (neg := neg) (up := true) (by omega) (by omega) (by omega) hPd hq rfl, by simp [leS, hC, MR, flt, rdr, z4]⟩
  · obtain ⟨c, hc⟩ : ∃ c, c = dend s (f + 1) := ⟨_, rfl⟩
    have hcs := dend_le (s := s) (a := f + 1) (by omega)
    have hWd := fun i (h1 : f + 1 ≤ i) (h2 : i < c) => dend_dig (s := s) (a := f + 1) h1 (hc ▸ h2)
    rw [← hc] at k1 k2 hcs
    have hWz := size_ext s (a := f + 1) hcs
    have hWn := nv_ext s (a := f + 1) hcs (c - (f + 1)) (by omega)
    rw [← hWz] at hWn
    have hWa := dig_ext hcs hWd
    rw [← hc]
    generalize s.extract (f + 1) c = W at *
    rw [hWz] at hWn
    have hW4 : W.size ≤ 400 := by omega
    have fin := eq_exp (P := P) (W := W) (tv := tv) (up := true) hn hcs x0 hb (by simp [x1]) hc.symm k2 k1 (by rw [hWz]; exact hWn)
    rw [← hq0] at fin
    simp [rdr]
    exact ⟨_, ⟨T, P, ⟨#[]⟩, W, c, 0, f + 1, none, neg, true, tv, 1, by simp, fun _ => hT, by omega, by omega, hPd, fw1, ht, .inl ⟨rfl, rfl⟩, hWa, hW4, fin, rfl⟩, by simp [leS, hC, MR, flt, rdr, z4]⟩
set_option maxRecDepth 20000 in
theorem head_nx0 {C : Ctx} {Q : Post} (hC : C.fx = []) {s T : ByteArray} {neg : Bool} {e tv : Nat} (hs : s.size ≤ 4611686018427387904) (hn : decide (minus s) = neg) (hes : e ≤ s.size) (hT : rd T = ((tv : Int), 0, 0)) (hTz : T.size ≤ 300) (ht : fw 400 (tv : Nat)) (g0 : ¬ isAt s e 47) (g : ¬ isAt s e 46) {f : Nat} (hf : f = e) {P : ByteArray} (hPe : P = ⟨#[]⟩) (hPz : P.size = 0) (hPd : ∀ i, i < P.size → digAt P i) (hfs : f ≤ s.size) (hq0 : qrd 300 s = qtail s (tv * 10 ^ P.size + nv P 0 P.size) P.size f) (x0 : ¬ isAt s f 101) : vc Tryz.prog C (takeC 1 (dropC 5 readBody)) (st5 s T neg e none) (cutQ C (IA s) Q) (cutQ C (IA s) Q) := by
  simp only [readBody, Tryz.f110, Option.getD_some, dropC_succ, dropC_zero, takeC_succ, takeC_zero]
  simp [st5, MR]
  subst hf
  subst hPe
  refine is_here s f 47 (by simp [tget, rdr]) hs (by omega) (by simp) (fun g' => absurd g' g0) (fun _ => ?_)
  simp
  refine is_here s f 46 (by simp [tget, rdr]) hs (by omega) (by simp) (fun g' => absurd g' g) (fun _ => ?_)
  simp [rdr]
  refine is_here s f 101 (by simp [tget, rdr]) hs (by omega) (by simp) (fun g' => absurd g' x0) (fun _ => ?_)
  have fin := eq_noexp (P := ⟨#[]⟩) (tv := tv) hn hfs x0
  rw [← hq0] at fin
  simp
  exact ⟨_, ⟨T, ⟨#[]⟩, ⟨#[]⟩, ⟨#[]⟩, f, 0, 0, none, neg, true, tv, 1, by simp, fun _ => hT, by omega, by omega, hPd, fw1, ht, .inl ⟨rfl, rfl⟩, e_all _, Nat.zero_le _, fin, rfl⟩, by simp [leS, hC, MR, flt, rdr, z4]⟩
set_option maxRecDepth 20000 in
theorem head_nx1 {C : Ctx} {Q : Post} (hC : C.fx = []) {s T : ByteArray} {neg : Bool} {e tv : Nat} (hs : s.size ≤ 4611686018427387904) (hn : decide (minus s) = neg) (hes : e ≤ s.size) (hT : rd T = ((tv : Int), 0, 0)) (hTz : T.size ≤ 300) (ht : fw 400 (tv : Nat)) (g0 : ¬ isAt s e 47) (g : ¬ isAt s e 46) {f : Nat} (hf : f = e) {P : ByteArray} (hPe : P = ⟨#[]⟩) (hPz : P.size = 0) (hPd : ∀ i, i < P.size → digAt P i) (hfs : f ≤ s.size) (hq0 : qrd 300 s = qtail s (tv * 10 ^ P.size + nv P 0 P.size) P.size f) (x0 : isAt s f 101) (x1 : isAt s (f + 1) 45) : vc Tryz.prog C (takeC 1 (dropC 5 readBody)) (st5 s T neg e none) (cutQ C (IA s) Q) (cutQ C (IA s) Q) := by
  simp only [readBody, Tryz.f110, Option.getD_some, dropC_succ, dropC_zero, takeC_succ, takeC_zero]
  simp [st5, MR]
  subst hf
  subst hPe
  refine is_here s f 47 (by simp [tget, rdr]) hs (by omega) (by simp) (fun g' => absurd g' g0) (fun _ => ?_)
  simp
  refine is_here s f 46 (by simp [tget, rdr]) hs (by omega) (by simp) (fun g' => absurd g' g) (fun _ => ?_)
  simp [rdr]
  have hx0 := x0.1
  refine is_here s f 101 (by simp [tget, rdr]) hs (by omega) (by simp) (fun _ => ?_) (fun g' => absurd x0 g')
  simp [rdr]
  have hx1 := x1.1
  have hb : expAt s f = f + 1 + 1 := by unfold expAt; rw [if_pos (.inl x1)]
  refine is_here s (f + 1) 45 (by simp [tget, rdr]) hs (by omega) (by simp) (fun _ => ?_) (fun g' => absurd x1 g')
  simp [rdr]
  refine digits_here s (f + 1 + 1) (by simp [tget, rdr]) hs (by omega) (by simp) (fun k1 => ?_) (fun k1 => ?_) (fun k1 k2 => ?_)
  · have hq : qrd 300 s = (0, 2, f + 1 + 1 + 300) := by rw [hq0]; unfold qtail; rw [if_pos x0, hb, if_pos k1]
    simp [rdr]
    exact ⟨_, IA.errP (T := T) (P := ⟨#[]⟩) (a := f + 1 + 1 + 300) (pa := f + 1 + 1) (neg := neg) (up := false) (by omega) (by omega) (by omega) hPd hq rfl, by simp [leS, hC, MR, flt, rdr, z4]⟩
  · have hq : qrd 300 s = (0, 1, f + 1 + 1) := by rw [hq0]; unfold qtail; rw [if_pos x0, hb, if_neg (by omega), if_pos (.inl k1), k1]
    simp [rdr]
    exact ⟨_, IA.errP (T := T) (P := ⟨#[]⟩) (a := f + 1 + 1) (pa := f + 1 + 1) (neg := neg) (up := false) (by omega) (by omega) (by omega) hPd hq rfl, by simp [leS, hC, MR, flt, rdr, z4]⟩
  · obtain ⟨c, hc⟩ : ∃ c, c = dend s (f + 1 + 1) := ⟨_, rfl⟩
    have hcs := dend_le (s := s) (a := f + 1 + 1) (by omega)
    have hWd := fun i (h1 : f + 1 + 1 ≤ i) (h2 : i < c) => dend_dig (s := s) (a := f + 1 + 1) h1 (hc ▸ h2)
    rw [← hc] at k1 k2 hcs
    have hWz := size_ext s (a := f + 1 + 1) hcs
    have hWn := nv_ext s (a := f + 1 + 1) hcs (c - (f + 1 + 1)) (by omega)
    rw [← hWz] at hWn
    have hWa := dig_ext hcs hWd
    rw [← hc]
    generalize s.extract (f + 1 + 1) c = W at *
    rw [hWz] at hWn
    have hW4 : W.size ≤ 400 := by omega
    have fin := eq_exp (P := ⟨#[]⟩) (W := W) (tv := tv) (up := false) hn hcs x0 hb (by simp [x1]) hc.symm k2 k1 (by rw [hWz]; exact hWn)
    rw [← hq0] at fin
    simp [rdr]
    exact ⟨_, ⟨T, ⟨#[]⟩, ⟨#[]⟩, W, c, 0, f + 1 + 1, none, neg, false, tv, 1, by simp, fun _ => hT, by omega, by omega, hPd, fw1, ht, .inl ⟨rfl, rfl⟩, hWa, hW4, fin, rfl⟩, by simp [leS, hC, MR, flt, rdr, z4]⟩
set_option maxRecDepth 20000 in
theorem head_nx2 {C : Ctx} {Q : Post} (hC : C.fx = []) {s T : ByteArray} {neg : Bool} {e tv : Nat} (hs : s.size ≤ 4611686018427387904) (hn : decide (minus s) = neg) (hes : e ≤ s.size) (hT : rd T = ((tv : Int), 0, 0)) (hTz : T.size ≤ 300) (ht : fw 400 (tv : Nat)) (g0 : ¬ isAt s e 47) (g : ¬ isAt s e 46) {f : Nat} (hf : f = e) {P : ByteArray} (hPe : P = ⟨#[]⟩) (hPz : P.size = 0) (hPd : ∀ i, i < P.size → digAt P i) (hfs : f ≤ s.size) (hq0 : qrd 300 s = qtail s (tv * 10 ^ P.size + nv P 0 P.size) P.size f) (x0 : isAt s f 101) (x1 : ¬ isAt s (f + 1) 45) (x2 : isAt s (f + 1) 43) : vc Tryz.prog C (takeC 1 (dropC 5 readBody)) (st5 s T neg e none) (cutQ C (IA s) Q) (cutQ C (IA s) Q) := by
  simp only [readBody, Tryz.f110, Option.getD_some, dropC_succ, dropC_zero, takeC_succ, takeC_zero]
  simp [st5, MR]
  subst hf
  subst hPe
  refine is_here s f 47 (by simp [tget, rdr]) hs (by omega) (by simp) (fun g' => absurd g' g0) (fun _ => ?_)
  simp
  refine is_here s f 46 (by simp [tget, rdr]) hs (by omega) (by simp) (fun g' => absurd g' g) (fun _ => ?_)
  simp [rdr]
  have hx0 := x0.1
  refine is_here s f 101 (by simp [tget, rdr]) hs (by omega) (by simp) (fun _ => ?_) (fun g' => absurd x0 g')
  simp [rdr]
  have hx1 := x2.1
  have hb : expAt s f = f + 1 + 1 := by unfold expAt; rw [if_pos (.inr x2)]
  refine is_here s (f + 1) 45 (by simp [tget, rdr]) hs (by omega) (by simp) (fun g' => absurd g' x1) (fun _ => ?_)
  simp [rdr]
  refine is_here s (f + 1) 43 (by simp [tget, rdr]) hs (by omega) (by simp) (fun _ => ?_) (fun g' => absurd x2 g')
  simp [rdr]
  refine digits_here s (f + 1 + 1) (by simp [tget, rdr]) hs (by omega) (by simp) (fun k1 => ?_) (fun k1 => ?_) (fun k1 k2 => ?_)
  · have hq : qrd 300 s = (0, 2, f + 1 + 1 + 300) := by rw [hq0]; unfold qtail; rw [if_pos x0, hb, if_pos k1]
    simp [rdr]
    exact ⟨_, IA.errP (T := T) (P := ⟨#[]⟩) (a := f + 1 + 1 + 300) (pa := f + 1 + 1) (neg := neg) (up := true) (by omega) (by omega) (by omega) hPd hq rfl, by simp [leS, hC, MR, flt, rdr, z4]⟩
  · have hq : qrd 300 s = (0, 1, f + 1 + 1) := by rw [hq0]; unfold qtail; rw [if_pos x0, hb, if_neg (by omega), if_pos (.inl k1), k1]
    simp [rdr]
    exact ⟨_, IA.errP (T := T) (P := ⟨#[]⟩) (a := f + 1 + 1) (pa := f + 1 + 1) (neg := neg) (up := true) (by omega) (by omega) (by omega) hPd hq rfl, by simp [leS, hC, MR, flt, rdr, z4]⟩
  · obtain ⟨c, hc⟩ : ∃ c, c = dend s (f + 1 + 1) := ⟨_, rfl⟩
    have hcs := dend_le (s := s) (a := f + 1 + 1) (by omega)
    have hWd := fun i (h1 : f + 1 + 1 ≤ i) (h2 : i < c) => dend_dig (s := s) (a := f + 1 + 1) h1 (hc ▸ h2)
    rw [← hc] at k1 k2 hcs
    have hWz := size_ext s (a := f + 1 + 1) hcs
    have hWn := nv_ext s (a := f + 1 + 1) hcs (c - (f + 1 + 1)) (by omega)
    rw [← hWz] at hWn
    have hWa := dig_ext hcs hWd
    rw [← hc]
    generalize s.extract (f + 1 + 1) c = W at *
    rw [hWz] at hWn
    have hW4 : W.size ≤ 400 := by omega
    have fin := eq_exp (P := ⟨#[]⟩) (W := W) (tv := tv) (up := true) hn hcs x0 hb (by simp [x1]) hc.symm k2 k1 (by rw [hWz]; exact hWn)
    rw [← hq0] at fin
    simp [rdr]
    exact ⟨_, ⟨T, ⟨#[]⟩, ⟨#[]⟩, W, c, 0, f + 1 + 1, none, neg, true, tv, 1, by simp, fun _ => hT, by omega, by omega, hPd, fw1, ht, .inl ⟨rfl, rfl⟩, hWa, hW4, fin, rfl⟩, by simp [leS, hC, MR, flt, rdr, z4]⟩
set_option maxRecDepth 20000 in
theorem head_nx3 {C : Ctx} {Q : Post} (hC : C.fx = []) {s T : ByteArray} {neg : Bool} {e tv : Nat} (hs : s.size ≤ 4611686018427387904) (hn : decide (minus s) = neg) (hes : e ≤ s.size) (hT : rd T = ((tv : Int), 0, 0)) (hTz : T.size ≤ 300) (ht : fw 400 (tv : Nat)) (g0 : ¬ isAt s e 47) (g : ¬ isAt s e 46) {f : Nat} (hf : f = e) {P : ByteArray} (hPe : P = ⟨#[]⟩) (hPz : P.size = 0) (hPd : ∀ i, i < P.size → digAt P i) (hfs : f ≤ s.size) (hq0 : qrd 300 s = qtail s (tv * 10 ^ P.size + nv P 0 P.size) P.size f) (x0 : isAt s f 101) (x1 : ¬ isAt s (f + 1) 45) (x2 : ¬ isAt s (f + 1) 43) : vc Tryz.prog C (takeC 1 (dropC 5 readBody)) (st5 s T neg e none) (cutQ C (IA s) Q) (cutQ C (IA s) Q) := by
  simp only [readBody, Tryz.f110, Option.getD_some, dropC_succ, dropC_zero, takeC_succ, takeC_zero]
  simp [st5, MR]
  subst hf
  subst hPe
  refine is_here s f 47 (by simp [tget, rdr]) hs (by omega) (by simp) (fun g' => absurd g' g0) (fun _ => ?_)
  simp
  refine is_here s f 46 (by simp [tget, rdr]) hs (by omega) (by simp) (fun g' => absurd g' g) (fun _ => ?_)
  simp [rdr]
  have hx0 := x0.1
  refine is_here s f 101 (by simp [tget, rdr]) hs (by omega) (by simp) (fun _ => ?_) (fun g' => absurd x0 g')
  simp [rdr]
  have hb : expAt s f = f + 1 := by unfold expAt; rw [if_neg (fun h => h.elim x1 x2)]
  refine is_here s (f + 1) 45 (by simp [tget, rdr]) hs (by omega) (by simp) (fun g' => absurd g' x1) (fun _ => ?_)
  simp [rdr]
  refine is_here s (f + 1) 43 (by simp [tget, rdr]) hs (by omega) (by simp) (fun g' => absurd g' x2) (fun _ => ?_)
  simp [rdr]
  refine digits_here s (f + 1) (by simp [tget, rdr]) hs (by omega) (by simp) (fun k1 => ?_) (fun k1 => ?_) (fun k1 k2 => ?_)
  · have hq : qrd 300 s = (0, 2, f + 1 + 300) := by rw [hq0]; unfold qtail; rw [if_pos x0, hb, if_pos k1]
    simp [rdr]
    exact ⟨_, IA.errP (T := T) (P := ⟨#[]⟩) (a := f + 1 + 300) (pa := f + 1) (neg := neg) (up := true) (by omega) (by omega) (by omega) hPd hq rfl, by simp [leS, hC, MR, flt, rdr, z4]⟩
  · have hq : qrd 300 s = (0, 1, f + 1) := by rw [hq0]; unfold qtail; rw [if_pos x0, hb, if_neg (by omega), if_pos (.inl k1), k1]
    simp [rdr]
    exact ⟨_, IA.errP (T := T) (P := ⟨#[]⟩) (a := f + 1) (pa := f + 1) (neg := neg) (up := true) (by omega) (by omega) (by omega) hPd hq rfl, by simp [leS, hC, MR, flt, rdr, z4]⟩
  · obtain ⟨c, hc⟩ : ∃ c, c = dend s (f + 1) := ⟨_, rfl⟩
    have hcs := dend_le (s := s) (a := f + 1) (by omega)
    have hWd := fun i (h1 : f + 1 ≤ i) (h2 : i < c) => dend_dig (s := s) (a := f + 1) h1 (hc ▸ h2)
    rw [← hc] at k1 k2 hcs
    have hWz := size_ext s (a := f + 1) hcs
    have hWn := nv_ext s (a := f + 1) hcs (c - (f + 1)) (by omega)
    rw [← hWz] at hWn
    have hWa := dig_ext hcs hWd
    rw [← hc]
    generalize s.extract (f + 1) c = W at *
    rw [hWz] at hWn
    have hW4 : W.size ≤ 400 := by omega
    have fin := eq_exp (P := ⟨#[]⟩) (W := W) (tv := tv) (up := true) hn hcs x0 hb (by simp [x1]) hc.symm k2 k1 (by rw [hWz]; exact hWn)
    rw [← hq0] at fin
    simp [rdr]
    exact ⟨_, ⟨T, ⟨#[]⟩, ⟨#[]⟩, W, c, 0, f + 1, none, neg, true, tv, 1, by simp, fun _ => hT, by omega, by omega, hPd, fw1, ht, .inl ⟨rfl, rfl⟩, hWa, hW4, fin, rfl⟩, by simp [leS, hC, MR, flt, rdr, z4]⟩
end Go.Proofs

