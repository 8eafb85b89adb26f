/- What the document's functions digit, digits and figure return. A text of the prover's own. -/
import Derived.Test.YtgiagombkgjhfaaDoorGg
namespace Go.Proofs
open Go.Sv Go Go.Pl
set_option maxRecDepth 10000 in
theorem rDigit_ok (c : Nat) (hc : c < 256) : PureF Tryd.prog 104 [.val (.int .u8 c)] (.val (.bool (decide (isDig c)))) := by
  refine pure_enter Tryd.func104 rfl (by simp) (fun C hC => ?_)
  rw [show decide (isDig c) = (decide ((48 : Int) ≤ c) && decide ((c : Int) ≤ 57)) by rw [← Bool.decide_and]; congr 1; simp [isDig]; omega]
  by_cases h1 : (48 : Int) ≤ c <;> by_cases h2 : (c : Int) ≤ 57 <;> simp [h1, h2]
/-- a fault of the document -/
def fsv (c : Nat) (a : Int) : SV := .agg [.val (.int .i64 c), .val (.int .i64 a)]
/-- what the document's digits returns -/
def dgs (s : ByteArray) (a : Nat) : Nat × Nat × Int :=
  if a + 300 < dend s a then (a + 300, 2, a + 300) else if dend s a = a then (a, 1, a) else (dend s a, 0, -1)
set_option maxRecDepth 20000 in
theorem rDigits_ok (s : ByteArray) (a : Nat) (ha : a ≤ s.size) (hs : s.size ≤ 4611686018427387904) :
    PureF Tryd.prog 79 [.val (.string s), .val (.int .i64 a), .val (.int .i64 300)] (.tup [.val (.int .i64 (dgs s a).1), fsv (dgs s a).2.1 (dgs s a).2.2]) := by
  refine pure_enter Tryd.func79 rfl (by simp) (fun C hC => ?_)
  simp
  refine CodeJ.loop (ι := Nat) (fun i => ⟨38, [(0, .val (.string s)), (1, .val (.int .i64 a)), (2, .val (.int .i64 300)), (7, .ptr 0 0 0), (8, .val (.int .i64 i))],
      [some ⟨2, [.agg [.val (.int .i64 0), .val (.int .i64 0)]], false⟩]⟩)
    (fun i => a ≤ i ∧ i ≤ s.size ∧ i ≤ a + 300 ∧ ∀ k, a ≤ k → k < i → digAt s k) (fun i => s.size - i) a ?_ ?_ ?_
  · exact ⟨by omega, ha, by omega, fun k h1 h2 => by omega⟩
  · simp [leS, hC]
  · rintro i ⟨h1, h2, h3, h4⟩
    have hb := byt_lt s i
    have stop : ¬ digAt s i → dend s a = i := fun h => dend_eq h1 h4 h
    have e3 : ¬ digAt s i → ¬ a + 300 < dend s a := fun h => by rw [stop h]; omega
    by_cases hi : i < s.size
    · have hd := rDigit_ok (byt s i) hb
      simp [hi]
      refine callF hd (by simp [byt]) ?_
      by_cases hdg : isDig (byt s i)
      · have hdi : digAt s i := ⟨hi, hdg⟩
        have all : ∀ k, a ≤ k → k < i + 1 → digAt s k := fun k k1 k2 => by
          by_cases e : k = i
          · subst e; exact hdi
          · exact h4 k k1 (by omega)
        by_cases he : i = a + 300
        · have he' : (i : Int) - a = 300 := by omega
          have hgt := dend_gt h1 fun k k1 k2 => all k k1 (by omega)
          have hr : dgs s a = (i, 2, (i : Int)) := by
            unfold dgs; rw [if_pos (by omega)]; simp [he]
          simp (disch := omega) [hdg, he', w64, hr, fsv]
        · have he' : ¬ (i : Int) - a = 300 := by omega
          simp (disch := omega) [hdg, he', w64]
          exact ⟨i + 1, ⟨by omega, by omega, by omega, all⟩, by omega, by simp [leS, hC]⟩
      · have hnd : ¬ digAt s i := fun h => hdg h.2
        by_cases he : i = a
        · have hr : dgs s a = (a, 1, (a : Int)) := by
            unfold dgs; rw [if_neg (e3 hnd), if_pos (by rw [stop hnd, he])]
          subst he
          simp [hdg, hr, fsv]
        · have hr : dgs s a = (i, 0, (-1 : Int)) := by
            unfold dgs; rw [if_neg (e3 hnd), if_neg (by rw [stop hnd]; exact he), stop hnd]
          have he' : ¬ (i : Int) = a := by omega
          simp [hdg, hr, fsv, he']
    · have hnd : ¬ digAt s i := fun h => hi h.1
      by_cases he : i = a
      · have hr : dgs s a = (a, 1, (a : Int)) := by
          unfold dgs; rw [if_neg (e3 hnd), if_pos (by rw [stop hnd, he])]
        subst he
        simp [hi, hr, fsv]
      · have hr : dgs s a = (i, 0, (-1 : Int)) := by
          unfold dgs; rw [if_neg (e3 hnd), if_neg (by rw [stop hnd]; exact he), stop hnd]
        have he' : ¬ (i : Int) = a := by omega
        simp [hi, hr, fsv, he']
theorem nv_split (s : ByteArray) (a b : Nat) : ∀ k, nv s a (b + k) = nv s a b * 10 ^ k + nv s (a + b) k
  | 0 => by simp [nv]
  | k + 1 => by
    have ih := nv_split s a b k
    rw [← Nat.add_assoc]
    simp only [nv, ih, Nat.pow_succ, Nat.add_assoc]
    grind
set_option maxRecDepth 20000 in
theorem rFigure_ok (t : ByteArray) (ht : t.size ≤ 1000000000) (hd : ∀ i, i < t.size → digAt t i) : PureF Tryd.prog 80 [.val (.string t)] (nsv (nv t 0 t.size : Nat)) := by
  refine pure_enter Tryd.func80 rfl (by simp) (fun C hC => ?_)
  simp
  refine CodeJ.nil 3 1 rfl ?_
  refine CodeJ.loop (ι := Int × List Nat) (fun ⟨to, d⟩ => ⟨36, [(0, .val (.string t)), (2, .ptr 0 0 0), (3, .view 1 0 d.length), (4, .val (.int .i64 to))],
      [some ⟨2, [.agg [.val (.bool false), .val (.slice none 0 0)]], false⟩, some ⟨1, d.map i64, false⟩]⟩)
    (fun ⟨to, d⟩ => -4 < to ∧ to + 4 * d.length = t.size ∧ (∀ x ∈ d, x < 10000) ∧ val 10000 d + 10000 ^ d.length * nv t 0 to.toNat = nv t 0 t.size)
    (fun ⟨to, d⟩ => (to + 4).toNat) ((t.size : Int), []) ?_ ?_ ?_
  · exact ⟨by omega, by simp, by simp, by simp [val]⟩
  · simp [leS, hC]
  · rintro ⟨to, d⟩ ⟨h1, h2, h3, h4⟩
    by_cases h0 : 0 < to
    · have tn : (to.toNat : Int) = to := by omega
      obtain ⟨a, hA⟩ : ∃ a, a = (to - 4).toNat := ⟨_, rfl⟩
      have hdl : d.length ≤ 1000000000 := by omega
      simp (disch := omega) [h0, w64]
      refine CodeJ.loop (ι := Int × Nat) (fun ⟨i, x⟩ => ⟨36, [(0, .val (.string t)), (2, .ptr 0 0 0), (3, .view 1 0 d.length), (4, .val (.int .i64 to)), (5, .val (.int .i64 x)), (6, .val (.int .i64 i))],
          [some ⟨2, [.agg [.val (.bool false), .val (.slice none 0 0)]], false⟩, some ⟨1, d.map i64, false⟩]⟩)
        (fun ⟨i, x⟩ => to - 4 ≤ i ∧ i ≤ to ∧ x = nv t a (i.toNat - a)) (fun ⟨i, x⟩ => (to - i).toNat) (to - 4, 0) ?_ ?_ ?_
      · refine ⟨by omega, by omega, ?_⟩
        rw [← hA, Nat.sub_self]; rfl
      · simp [leS, hC]
      · rintro ⟨i, x⟩ ⟨g1, g2, g3⟩
        have xl : ∀ k, a + k ≤ t.size → nv t a k < 10 ^ k := fun k hk => nv_lt fun j j1 j2 => hd j (by omega)
        by_cases hlt : i < to
        · by_cases hi0 : 0 ≤ i
          · obtain ⟨k, rfl⟩ : ∃ k : Nat, i = k := ⟨i.toNat, by omega⟩
            have hk : k < t.size := by omega
            have hdk := (hd k hk).2
            unfold isDig byt at hdk
            have hx : x < 1000 := by
              have := xl (k - a) (by omega)
              have : (10 : Nat) ^ (k - a) ≤ 10 ^ 3 := Nat.pow_le_pow_right (by omega) (by omega)
              rw [g3]; simp only [Int.toNat_natCast]; omega
            obtain ⟨c, hc⟩ : ∃ c, c = (sget t k).toNat - 48 := ⟨_, rfl⟩
            have hc' : IntKind.u8.wrap (((sget t k).toNat : Int) - 48) = c := by rw [u8w]; omega
            have st : 10 * x + c = nv t a (k + 1 - a) := by
              have e : k + 1 - a = (k - a) + 1 := by omega
              have e2 : a + (k - a) = k := by omega
              rw [e]
              simp only [nv, e2]
              simp only [Int.toNat_natCast] at g3
              unfold byt
              rw [← g3, hc]; omega
            simp (disch := omega) [hlt, hi0, w64, hc', hk]
            exact ⟨k + 1, 10 * x + c, ⟨by omega, by omega, by rw [st]; congr 1⟩, by omega, by simp [leS, hC]⟩
          · have hi1 : ¬ (0 : Int) ≤ i := hi0
            have a0 : a = 0 := by omega
            simp (disch := omega) [hlt, hi0, w64]
            exact ⟨i + 1, x, ⟨by omega, by omega, by rw [g3, a0]; congr 1; omega⟩, by omega, by simp [leS, hC]⟩
        · have hit : i = to := by omega
          subst hit
          have sp := nv_split t 0 a (i.toNat - a)
          rw [show a + (i.toNat - a) = i.toNat by omega, Nat.zero_add, ← g3] at sp
          have hx : x < 10000 := by
            have := xl (i.toNat - a) (by omega)
            have : (10 : Nat) ^ (i.toNat - a) ≤ 10 ^ 4 := Nat.pow_le_pow_right (by omega) (by omega)
            omega
          have sp2 : nv t 0 i.toNat = x + 10000 * nv t 0 a := by
            by_cases h44 : 4 ≤ i
            · rw [sp, show i.toNat - a = 4 by omega]; omega
            · have a0 : a = 0 := by omega
              rw [sp, a0]; simp [nv]
          simp (disch := omega) [w64, hC]
          refine ⟨by omega, i - 4, d ++ [x], ⟨by omega, by simp; omega, lt_snoc h3 hx, ?_⟩, by omega, by simp [leS, hC]⟩
          rw [← hA, val_app, List.length_append, List.length_singleton, Nat.pow_succ, ← h4, sp2]
          simp only [val]
          grind
    · have e0 : to.toNat = 0 := by omega
      rw [e0] at h4
      have h5 : val 10000 d = nv t 0 t.size := by simpa [nv] using h4
      have hm := rMade_ok false d (by omega) h3
      rw [h5] at hm
      simp [h0]
      refine callF hm (by simp [List.take_of_length_le]) ?_
      simp
end Go.Proofs
