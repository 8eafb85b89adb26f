/- A fraction's own text is read back: as a plain law; what the document's readers of texts make of such texts. What a short text says is told by a text that is not long; the sum of two such ones too. A text of the prover's own. -/
import Derived.Test.YtnimjdcaajmfcaaGreatDoorPRt
import Derived.Test.YtnimjdcaajmfcaaGreatDoorPUt
import Derived.Test.YtnimjdcaajmfcaaGreatDoorPMt
namespace Go.Proofs
open Go.Sv Go Go.Pl
theorem byt_pre (P X : ByteArray) (i : Nat) : byt (P ++ X) (P.size + i) = byt X i := by
  unfold byt; rw [sget_app, if_neg (by omega), show P.size + i - P.size = i by omega]
theorem byt_in {P X : ByteArray} {i : Nat} (h : i < P.size) : byt (P ++ X) i = byt P i := by
  unfold byt; rw [sget_app, if_pos h]
theorem dig_pre (P X : ByteArray) (i : Nat) : digAt (P ++ X) (P.size + i) ↔ digAt X i := by
  unfold digAt; rw [byt_pre, size_app]
  exact and_congr ⟨fun h => by omega, fun h => by omega⟩ Iff.rfl
theorem dend_pre (P X : ByteArray) (a : Nat) : dend (P ++ X) (P.size + a) = P.size + dend X a := by
  have h0 := dend_ge X a
  refine dend_eq (by omega) (fun i h1 h2 => ?_) (fun h => dend_not X a ((dig_pre _ _ _).1 h))
  obtain ⟨k, rfl⟩ : ∃ k, i = P.size + k := ⟨i - P.size, by omega⟩
  exact (dig_pre _ _ _).2 (dend_dig (a := a) (by omega) (by omega))
theorem nv_pre (P X : ByteArray) (a : Nat) : ∀ k, nv (P ++ X) (P.size + a) k = nv X a k
  | 0 => rfl
  | k + 1 => by
    simp only [nv]
    rw [nv_pre P X a k, Nat.add_assoc, byt_pre]
theorem isAt_pre (P X : ByteArray) (i c : Nat) : isAt (P ++ X) (P.size + i) c ↔ isAt X i c := by
  unfold isAt; rw [byt_pre, size_app]
  exact and_congr ⟨fun h => by omega, fun h => by omega⟩ Iff.rfl
/-- digits, and what is none -/
theorem dend_dig0 {D T : ByteArray} (hD : ∀ i, i < D.size → digAt D i) (hT : ¬ digAt T 0) : dend (D ++ T) 0 = D.size := by
  refine dend_eq (by omega) (fun i _ h2 => ?_) ?_
  · refine ⟨by rw [size_app]; omega, ?_⟩
    rw [byt_in h2]; exact (hD i h2).2
  · have := dig_pre D T 0
    rw [Nat.add_zero] at this
    exact fun h => hT (this.1 h)
/-- a sign, or none -/
def Sgn (P : ByteArray) (b : Bool) : Prop := P = if b = true then sb [45] else sb []
theorem sgn_at {P D T : ByteArray} {b : Bool} (hP : Sgn P b) (hD : ∀ i, i < D.size → digAt D i) (h0 : 0 < D.size) : sgnAt (P ++ (D ++ T)) = P.size ∧ (minus (P ++ (D ++ T)) ↔ b = true) := by
  unfold Sgn at hP
  cases b with
  | true =>
    obtain rfl : P = sb [45] := hP
    have hm : minus (sb [45] ++ (D ++ T)) := ⟨by rw [size_app, sb_size]; simp; omega, by rw [byt_in (by simp)]; rfl⟩
    refine ⟨?_, ⟨fun _ => rfl, fun _ => hm⟩⟩
    unfold sgnAt; rw [if_pos hm]; rfl
  | false =>
    obtain rfl : P = sb [] := hP
    have hm : ¬ minus (sb [] ++ (D ++ T)) := fun h => by
      have h1 := h.2
      have e := byt_pre (sb []) (D ++ T) 0
      rw [show (sb []).size + 0 = 0 from rfl, h1, byt_in h0] at e
      have := (hD 0 h0).2
      rw [← e] at this
      unfold isDig at this
      omega
    refine ⟨?_, ⟨fun h => absurd h hm, fun h => by cases h⟩⟩
    unfold sgnAt; rw [if_neg hm]; rfl
theorem not_dig_nil : ¬ digAt (sb []) 0 := fun h => by have := h.1; simp at this
theorem app_nil (D : ByteArray) : D ++ sb [] = D := by
  apply ByteArray.ext
  rw [ByteArray.data_append]
  show D.data ++ #[] = D.data
  simp
theorem qrd_whole {P D : ByteArray} {b : Bool} {n m : Nat} (hP : Sgn P b) (hD : ∀ i, i < D.size → digAt D i) (hn : nv D 0 D.size = n) (h0 : 0 < D.size) (hm : (P ++ D).size ≤ m) : qrd m (P ++ D) = (Rat.divInt (if b = true then -(n : Int) else n) 1, 0, 0) := by
  have hs := sgn_at (T := sb []) hP hD h0
  have hd := dend_dig0 (T := sb []) hD not_dig_nil
  rw [app_nil] at hs hd
  have hz : (P ++ D).size = P.size + D.size := size_app _ _
  have hd' : dend (P ++ D) P.size = P.size + D.size := by
    have := dend_pre P D 0
    rwa [hd] at this
  have hv : nv (P ++ D) P.size D.size = n := by
    have := nv_pre P D 0 D.size
    rwa [hn] at this
  have ni : ∀ c, ¬ isAt (P ++ D) (P.size + D.size) c := fun c h => by have := h.1; omega
  unfold qrd
  rw [hs.1, hd', if_neg (by omega), if_neg (by omega), if_neg (ni 47), if_neg (ni 46), show P.size + D.size - P.size = D.size by omega, hv]
  unfold qtail
  rw [if_neg (ni 101), if_neg (by omega)]
  unfold sgnd
  by_cases hb : b = true
  · rw [if_pos (hs.2.2 hb), if_pos hb]; rfl
  · rw [if_neg (fun h => hb (hs.2.1 h)), if_neg hb]; rfl
theorem qrd_frac {P D E : ByteArray} {b : Bool} {n d m : Nat} (hP : Sgn P b) (hD : ∀ i, i < D.size → digAt D i) (hn : nv D 0 D.size = n) (h0 : 0 < D.size)
    (hE : ∀ i, i < E.size → digAt E i) (hd : nv E 0 E.size = d) (h1 : 0 < E.size) (hd0 : d ≠ 0) (hm : (P ++ (D ++ (sb [47] ++ E))).size ≤ m) : qrd m (P ++ (D ++ (sb [47] ++ E))) = (Rat.divInt (if b = true then -(n : Int) else n) d, 0, 0) := by
  have hT : ¬ digAt (sb [47] ++ E) 0 := fun h => by
    have h2 := h.2
    rw [byt_in (by simp)] at h2
    have e : byt (sb [47]) 0 = 47 := rfl
    rw [e] at h2
    unfold isDig at h2; omega
  have hs := sgn_at (T := sb [47] ++ E) hP hD h0
  have hde := dend_dig0 (T := sb [47] ++ E) hD hT
  generalize hS : P ++ (D ++ (sb [47] ++ E)) = s at *
  have hz : s.size = P.size + D.size + 1 + E.size := by rw [← hS, size_app, size_app, size_app, sb_size]; simp; omega
  have hd' : dend s P.size = P.size + D.size := by
    have := dend_pre P (D ++ (sb [47] ++ E)) 0
    rwa [hde, hS] at this
  have hv : nv s P.size D.size = n := by
    have := nv_pre P (D ++ (sb [47] ++ E)) 0 D.size
    rw [nv_app1 D _ _ (Nat.le_refl _), hn, hS] at this
    exact this
  have hi : isAt s (P.size + D.size) 47 := by
    rw [← hS]
    refine (isAt_pre _ _ _ _).2 ?_
    have := isAt_pre D (sb [47] ++ E) 0 47
    rw [Nat.add_zero] at this
    exact this.2 ⟨by rw [size_app, sb_size]; simp; omega, by rw [byt_in (by simp)]; rfl⟩
  have hE0 : dend E 0 = E.size := by
    have := dend_dig0 (T := sb []) hE not_dig_nil
    rwa [app_nil] at this
  have hd2 : dend s (P.size + D.size + 1) = s.size := by
    have e1 := dend_pre P (D ++ (sb [47] ++ E)) (D.size + 1)
    have e2 := dend_pre D (sb [47] ++ E) 1
    have e3 := dend_pre (sb [47]) E 0
    rw [show (sb [47]).size + 0 = 1 from rfl, hE0] at e3
    rw [e2, e3, hS, sb_size] at e1
    rw [show P.size + D.size + 1 = P.size + (D.size + 1) by omega, e1, hz]
    simp; omega
  have hv2 : nv s (P.size + D.size + 1) E.size = d := by
    have e1 := nv_pre P (D ++ (sb [47] ++ E)) (D.size + 1) E.size
    have e2 := nv_pre D (sb [47] ++ E) 1 E.size
    have e3 := nv_pre (sb [47]) E 0 E.size
    rw [show (sb [47]).size + 0 = 1 from rfl, hd] at e3
    rw [e2, e3, hS] at e1
    rw [show P.size + D.size + 1 = P.size + (D.size + 1) by omega, e1]
  unfold qrd
  rw [hs.1, hd', if_neg (by omega), if_neg (by omega), if_pos hi, hd2, if_neg (by omega), if_neg (by omega), show s.size - (P.size + D.size + 1) = E.size by omega, hv2, if_neg hd0, show P.size + D.size - P.size = D.size by omega, hv]
  unfold sgnd
  by_cases hb : b = true
  · rw [if_pos (hs.2.2 hb), if_pos hb]
  · rw [if_neg (fun h => hb (hs.2.1 h)), if_neg hb]
theorem txt_parts (x : Int) : ∃ P D, ∃ b : Bool, txt x = P ++ D ∧ Sgn P b ∧ (∀ i, i < D.size → digAt D i) ∧ 0 < D.size ∧ nv D 0 D.size = x.natAbs ∧ (if b = true then -(x.natAbs : Int) else (x.natAbs : Int)) = x := by
  have e : txt x = sb (txtL x) := rfl
  have hl := dig_lt (B := 10) (by omega) x.natAbs
  have hv := val_dig (B := 10) (by omega) x.natAbs
  rw [e]
  unfold txtL
  by_cases h0 : x = 0
  · subst h0
    exact ⟨sb [], sb [48], false, by rw [if_pos rfl, sb_app]; rfl, rfl, dig_one_at (d := 0) (by omega), by simp, rfl, rfl⟩
  · rw [if_neg h0]
    have hne : 0 < (dig 10 x.natAbs).length := by
      rw [List.length_pos_iff]; intro hn; rw [dig_eq_nil (by omega)] at hn; omega
    by_cases h1 : x < 0
    · exact ⟨sb [45], dtx (dig 10 x.natAbs), true, by rw [if_pos h1, ← sb_app]; rfl, rfl, dtx_dig hl, by rw [dtx_size]; exact hne, by rw [dtx_nv hl, hv], by rw [if_pos rfl]; omega⟩
    · exact ⟨sb [], dtx (dig 10 x.natAbs), false, by rw [if_neg h1, ← sb_app]; rfl, rfl, dtx_dig hl, by rw [dtx_size]; exact hne, by rw [dtx_nv hl, hv], by rw [if_neg (by simp)]; omega⟩
theorem txt_pos {d : Nat} (h : d ≠ 0) : ∃ D, txt (d : Int) = D ∧ (∀ i, i < D.size → digAt D i) ∧ 0 < D.size ∧ nv D 0 D.size = d := by
  have e : txt (d : Int) = sb (txtL d) := rfl
  have hl := dig_lt (B := 10) (by omega) d
  have hv := val_dig (B := 10) (by omega) d
  have hne : 0 < (dig 10 d).length := by
    rw [List.length_pos_iff]; intro hn; rw [dig_eq_nil (by omega)] at hn; omega
  refine ⟨dtx (dig 10 d), ?_, dtx_dig hl, by rw [dtx_size]; exact hne, by rw [dtx_nv hl, hv]⟩
  rw [e]
  unfold txtL
  rw [if_neg (by omega), if_neg (by omega)]; rfl
theorem app_assoc (a b c : ByteArray) : a ++ b ++ c = a ++ (b ++ c) := by
  apply ByteArray.ext
  simp [ByteArray.data_append]
/-- a fraction's own text says that fraction -/
theorem qrd_txt (q : Rat) {m : Nat} (hm : (qtxt q).size ≤ m) : qrd m (qtxt q) = (q, 0, 0) := by
  obtain ⟨P, D, b, e1, e2, e3, e4, e5, e6⟩ := txt_parts q.num
  unfold qtxt at hm ⊢
  by_cases h : q.den = 1
  · rw [if_pos h, e1] at hm ⊢
    rw [qrd_whole e2 e3 e5 e4 hm, e6]
    have := Rat.num_divInt_den q
    rw [h] at this
    rw [show ((1 : Nat) : Int) = 1 from rfl] at this
    rw [this]
  · obtain ⟨E, f1, f2, f3, f4⟩ := txt_pos q.den_nz
    rw [if_neg h, e1, f1, show (⟨#[47]⟩ : ByteArray) = sb [47] from rfl, app_assoc, app_assoc] at hm ⊢
    rw [qrd_frac e2 e3 e5 e4 f2 f4 f3 q.den_nz hm, e6, Rat.num_divInt_den]
end Go.Proofs
namespace Go.Li
open Go Go.Sv Go.Pl Go.Proofs Go.Tb Go.Ut
theorem txt_sz {x : Int} {k : Nat} (h : fw k x) : (txt x).size ≤ 10 * k + 2 := by
  have e : txt x = sb (txtL x) := rfl
  rw [e, sb_size]
  unfold txtL
  have h1 := wid_ten x.natAbs
  unfold fw at h
  have h2 : (dig 10 x.natAbs).length ≤ 10 * k := by
    have : (dig 10 x.natAbs).length = wid 10 x.natAbs := rfl
    omega
  split
  · simp
  · split <;> simp <;> omega
end Go.Li
namespace Go.Proofs
open Go.Sv Go Go.Tb Go.Pl Go.Ut Go.Li
end Go.Proofs
namespace Go.Dt
open Go Go.Sv Go.Pl Go.Proofs Go.Tb Go.Ut Go.Li
/-- x over N, no greater than V -/
def Ov (q : Rat) (V N : Nat) : Prop := ∃ x : Int, q = Rat.divInt x (N : Int) ∧ x.natAbs ≤ V * N
theorem Ov.add {q p : Rat} {V N W K : Nat} (h : Ov q V N) (h' : Ov p W K) (hN : 0 < N) (hK : 0 < K) : Ov (q + p) (V + W) (N * K) := by
  obtain ⟨x, rfl, hx⟩ := h
  obtain ⟨y, rfl, hy⟩ := h'
  refine ⟨x * (K : Int) + y * (N : Int), ?_, ?_⟩
  · rw [Rat.divInt_add_divInt _ _ (by omega) (by omega), Int.natCast_mul]
  · have h1 := Int.natAbs_add_le (x * (K : Int)) (y * (N : Int))
    rw [Int.natAbs_mul, Int.natAbs_mul, Int.natAbs_natCast, Int.natAbs_natCast] at h1
    have h2 := Nat.mul_le_mul_right K hx
    have h3 := Nat.mul_le_mul_right N hy
    have e : (V + W) * (N * K) = V * N * K + W * K * N := by grind
    omega
theorem Ov.scale {q : Rat} {V N : Nat} (h : Ov q V N) {s : Nat} (hs : 0 < s) : Ov q V (N * s) := by
  obtain ⟨x, rfl, hx⟩ := h
  refine ⟨x * (s : Int), ?_, ?_⟩
  · rw [Int.natCast_mul, Rat.divInt_mul_right (by omega)]
  · rw [Int.natAbs_mul, Int.natAbs_natCast, ← Nat.mul_assoc]
    exact Nat.mul_le_mul_right s hx
theorem Ov.addS {q p : Rat} {V N W : Nat} (h : Ov q V N) (h' : Ov p W N) (hN : 0 < N) : Ov (q + p) (V + W) N := by
  obtain ⟨x, rfl, hx⟩ := h
  obtain ⟨y, rfl, hy⟩ := h'
  refine ⟨x + y, ?_, ?_⟩
  · rw [Rat.divInt_add_divInt _ _ (by omega) (by omega), ← Int.add_mul, Rat.divInt_mul_right (by omega)]
  · have h1 := Int.natAbs_add_le x y
    have e : (V + W) * N = V * N + W * N := by grind
    omega
theorem divIntOne (z : Int) : Rat.divInt z 1 = (z : Rat) := by
  have h := Rat.num_divInt_den (z : Rat)
  rwa [Rat.num_intCast, Rat.den_intCast] at h
theorem Ov.nat (i : Nat) : Ov ((i : Int) : Rat) i 1 := ⟨i, by rw [show ((1 : Nat) : Int) = 1 from rfl, divIntOne], by simp⟩
theorem txt_szD {x : Int} {k : Nat} (h : x.natAbs < 10 ^ k) (hk : 1 ≤ k) : (txt x).size ≤ k + 1 := by
  have e : txt x = sb (txtL x) := rfl
  rw [e, sb_size]
  unfold txtL
  have h2 : (dig 10 x.natAbs).length ≤ k := wid_le (by omega) h
  split
  · simp
  · split <;> simp <;> omega
theorem Ov.size {q : Rat} {V N a b : Nat} (h : Ov q V N) (hN : 0 < N) (ha : V * N < 10 ^ a) (hb : N < 10 ^ b) (h1 : 1 ≤ a) (h2 : 1 ≤ b) (hs : a + b + 3 ≤ 300) : (qtxt q).size ≤ 300 := by
  obtain ⟨x, rfl, hx⟩ := h
  have s1 := txt_szD (x := (Rat.divInt x (N : Int)).num) (k := a) (by
    rw [Rat.num_divInt]
    refine Nat.lt_of_le_of_lt (Nat.le_trans (abs_div_le _ _) ?_) ha
    rw [Int.natAbs_mul, Int.sign_eq_one_of_pos (by omega)]
    simpa using hx) h1
  have s2 := txt_szD (x := ((Rat.divInt x (N : Int)).den : Int)) (k := b) (by
    rw [Int.natAbs_natCast, Rat.den_divInt, if_neg (by omega)]
    refine Nat.lt_of_le_of_lt (Nat.div_le_self _ _) ?_
    simpa using hb) h2
  unfold qtxt
  split
  · omega
  · rw [size_app, size_app]
    have : (⟨#[47]⟩ : ByteArray).size = 1 := rfl
    omega
/-- what a text of at most thirty bytes says -/
inductive Sh (q : Rat) : Prop
  | frac (b : Nat) (h0 : 0 < b) (hb : b ≤ 10 ^ 30) (h : Ov q (10 ^ 30) b)
  | less (h : Ov q (10 ^ 30) (10 ^ 90))
  | more (h : Ov q (10 ^ 90) (10 ^ 30))
theorem Sh.zero : Sh 0 := .frac 1 (by omega) (by decide) ⟨0, by simp, by simp⟩
theorem sgnd_abs (s : ByteArray) (n : Nat) : (sgnd s n).natAbs = n := by unfold sgnd; split <;> omega
theorem Sh.down {s : ByteArray} {N p : Nat} (hN : N < 10 ^ 30) (hp : p ≤ 90) : Sh (Rat.divInt (sgnd s N) ((10 ^ p : Nat) : Int)) := by
  have h10 : 1 ≤ 10 ^ p := Nat.pow_pos (by omega)
  have h : Ov (Rat.divInt (sgnd s N) ((10 ^ p : Nat) : Int)) (10 ^ 30) (10 ^ p) := ⟨_, rfl, by
    rw [sgnd_abs]
    exact Nat.le_trans (Nat.le_of_lt hN) (Nat.le_mul_of_pos_right _ h10)⟩
  have h' := h.scale (s := 10 ^ (90 - p)) (Nat.pow_pos (by omega))
  rw [← Nat.pow_add, show p + (90 - p) = 90 by omega] at h'
  exact .less h'
theorem Sh.up {s : ByteArray} {N p e : Nat} (hN : N < 10 ^ 30) (hp : p ≤ 30) (he : e ≤ 60) : Sh (Rat.divInt (sgnd s (N * 10 ^ e)) ((10 ^ p : Nat) : Int)) := by
  have h10 : 1 ≤ 10 ^ p := Nat.pow_pos (by omega)
  have h : Ov (Rat.divInt (sgnd s (N * 10 ^ e)) ((10 ^ p : Nat) : Int)) (10 ^ 90) (10 ^ p) := ⟨_, rfl, by
    rw [sgnd_abs]
    have h1 : N * 10 ^ e ≤ 10 ^ 30 * 10 ^ 60 := Nat.mul_le_mul (Nat.le_of_lt hN) (Nat.pow_le_pow_right (by omega) he)
    rw [← Nat.pow_add] at h1
    exact Nat.le_trans h1 (Nat.le_mul_of_pos_right _ h10)⟩
  have h' := h.scale (s := 10 ^ (30 - p)) (Nat.pow_pos (by omega))
  rw [← Nat.pow_add, show p + (30 - p) = 30 by omega] at h'
  exact .more h'
theorem sh_qtail {s : ByteArray} {N p e : Nat} (hN : N < 10 ^ 30) (hp : p ≤ 30) : Sh (qtail s N p e).1 := by
  unfold qtail
  split
  · split
    · exact .zero
    split
    · exact .zero
    split
    · exact .zero
    split
    · exact .down hN (by omega)
    · exact .up hN hp (by omega)
  · split
    · exact .zero
    · exact .down hN (by omega)
theorem nv_dend {s : ByteArray} {a k : Nat} (h : dend s a - a ≤ k) : nv s a (dend s a - a) < 10 ^ k := by
  have := dend_ge s a
  exact Nat.lt_of_lt_of_le (nv_lt fun i h1 h2 => dend_dig h1 (by omega)) (Nat.pow_le_pow_right (by omega) h)
theorem sh_qrd {s : ByteArray} (hs : s.size ≤ 30) : Sh (qrd 300 s).1 := by
  have ha := sgnAt_le s
  have hb := dend_le (s := s) (a := sgnAt s) ha
  unfold qrd
  split
  · exact .zero
  split
  · exact .zero
  split
  · rename_i g
    split
    · exact .zero
    split
    · exact .zero
    rename_i h3
    split
    · exact .zero
    rename_i h4
    have he := dend_le (s := s) (a := dend s (sgnAt s) + 1) g.1
    have e : dend s (dend s (sgnAt s) + 1) = s.size := by omega
    have hd := nv_dend (s := s) (a := dend s (sgnAt s) + 1) (k := 30) (by omega)
    rw [e] at hd
    refine .frac _ (by omega) (Nat.le_of_lt hd) ⟨_, rfl, ?_⟩
    rw [sgnd_abs]
    exact Nat.le_trans (Nat.le_of_lt (nv_dend (k := 30) (by omega))) (Nat.le_mul_of_pos_right _ (by omega))
  split
  · rename_i g
    split
    · exact .zero
    split
    · exact .zero
    have he := dend_le (s := s) (a := dend s (sgnAt s) + 1) g.1
    have hg := dend_ge s (sgnAt s)
    have hl := dend_ge s (dend s (sgnAt s) + 1)
    refine sh_qtail ?_ (by omega)
    have h1 := nv_dend (s := s) (a := sgnAt s) (Nat.le_refl _)
    have h2 := nv_dend (s := s) (a := dend s (sgnAt s) + 1) (Nat.le_refl _)
    generalize hu : dend s (sgnAt s) - sgnAt s = u at *
    generalize hv : dend s (dend s (sgnAt s) + 1) - (dend s (sgnAt s) + 1) = v at *
    have h3 : (nv s (sgnAt s) u + 1) * 10 ^ v ≤ 10 ^ u * 10 ^ v := Nat.mul_le_mul_right _ h1
    rw [← Nat.pow_add, Nat.add_mul, Nat.one_mul] at h3
    have h4 : 10 ^ (u + v) ≤ 10 ^ 30 := Nat.pow_le_pow_right (by omega) (by omega)
    omega
  · exact sh_qtail (nv_dend (by omega)) (by omega)
/-- the sum of two such ones, and of a small number -/
theorem sh_sum {q p : Rat} (hq : Sh q) (hp : Sh p) {i : Nat} (hi : i ≤ 5) : (qtxt (q + p + ((i : Int) : Rat))).size ≤ 300 := by
  have key : ∀ {V N a b : Nat}, Ov (q + p) V N → 0 < N → (V + 5) * N < 10 ^ a → N < 10 ^ b → 1 ≤ a → 1 ≤ b → a + b + 3 ≤ 300 → (qtxt (q + p + ((i : Int) : Rat))).size ≤ 300 := fun {V N a b} h h0 h1 h2 h3 h4 h5 => by
    have h' := h.add (Ov.nat i) h0 (by omega)
    rw [Nat.mul_one] at h'
    exact h'.size h0 (Nat.lt_of_le_of_lt (Nat.mul_le_mul_right _ (by omega)) h1) h2 h3 h4 h5
  have t30 : 0 < 10 ^ 30 := by decide
  have t90 : 0 < 10 ^ 90 := by decide
  have nn : ∀ {c d x y : Nat}, c ≤ x → d ≤ y → c * d ≤ x * y := fun h1 h2 => Nat.mul_le_mul h1 h2
  rcases hq with ⟨c, c0, hc, h⟩ | h | h <;> rcases hp with ⟨d, d0, hd, h'⟩ | h' | h'
  · exact key (a := 100) (b := 61) (h.add h' c0 d0) (Nat.mul_pos c0 d0) (Nat.lt_of_le_of_lt (Nat.mul_le_mul_left _ (nn hc hd)) (by decide)) (Nat.lt_of_le_of_lt (nn hc hd) (by decide)) (by omega) (by omega) (by omega)
  · exact key (a := 151) (b := 121) (h.add h' c0 t90) (Nat.mul_pos c0 t90) (Nat.lt_of_le_of_lt (Nat.mul_le_mul_left _ (nn hc (Nat.le_refl _))) (by decide)) (Nat.lt_of_le_of_lt (nn hc (Nat.le_refl _)) (by decide)) (by omega) (by omega) (by omega)
  · exact key (a := 151) (b := 61) (h.add h' c0 t30) (Nat.mul_pos c0 t30) (Nat.lt_of_le_of_lt (Nat.mul_le_mul_left _ (nn hc (Nat.le_refl _))) (by decide)) (Nat.lt_of_le_of_lt (nn hc (Nat.le_refl _)) (by decide)) (by omega) (by omega) (by omega)
  · exact key (a := 151) (b := 121) (h.add h' t90 d0) (Nat.mul_pos t90 d0) (Nat.lt_of_le_of_lt (Nat.mul_le_mul_left _ (nn (Nat.le_refl _) hd)) (by decide)) (Nat.lt_of_le_of_lt (nn (Nat.le_refl _) hd) (by decide)) (by omega) (by omega) (by omega)
  · exact key (a := 182) (b := 91) (h.addS h' t90) t90 (by decide) (by decide) (by omega) (by omega) (by omega)
  · have h2 := h'.scale (s := 10 ^ 60) (by decide)
    rw [← Nat.pow_add] at h2
    exact key (a := 182) (b := 91) (h.addS h2 t90) t90 (by decide) (by decide) (by omega) (by omega) (by omega)
  · exact key (a := 151) (b := 61) (h.add h' t30 d0) (Nat.mul_pos t30 d0) (Nat.lt_of_le_of_lt (Nat.mul_le_mul_left _ (nn (Nat.le_refl _) hd)) (by decide)) (Nat.lt_of_le_of_lt (nn (Nat.le_refl _) hd) (by decide)) (by omega) (by omega) (by omega)
  · have h2 := h.scale (s := 10 ^ 60) (by decide)
    rw [← Nat.pow_add] at h2
    exact key (a := 182) (b := 91) (h2.addS h' t90) t90 (by decide) (by decide) (by omega) (by omega) (by omega)
  · exact key (a := 182) (b := 91) (h.add h' t30 t30) (by decide) (by decide) (by decide) (by omega) (by omega) (by omega)
end Go.Dt

