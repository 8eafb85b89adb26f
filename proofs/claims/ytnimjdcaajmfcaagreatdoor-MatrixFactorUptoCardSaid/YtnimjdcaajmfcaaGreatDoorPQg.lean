/- What the function Simplest of package ratio returns, and the document's. A text of the prover's own. -/
import Derived.Test.YtnimjdcaajmfcaaGreatDoorPQf
namespace Go.Pl
theorem rat_le_num {q : Rat} : q * ((q.den : Int) : Rat) ≤ (q.num : Rat) := by rw [rat_eq]; exact Rat.le_refl
theorem btw_min {n : Nat} {low high : Rat} (h0 : 0 < low) (h1 : low ≤ high) (hn : low.den + high.den ≤ n) : (btw n low high).num ≤ low.num ∧ (btw n low high).den ≤ low.den ∧ 0 < btw n low high := by
  obtain ⟨b1, b2, b3⟩ := btw_ok n low high h0 h1 hn
  have hd : (0 : Rat) < ((low.den : Int) : Rat) := Rat.intCast_pos.2 (rat_den_pos low)
  have := b3 low.num low.den (rat_den_pos low) rat_le_num (by rw [← rat_eq]; exact Rat.mul_le_mul_of_nonneg_right h1 (Rat.le_of_lt hd))
  exact ⟨this.1, by omega, by grind⟩
end Go.Pl
namespace Go.Proofs
open Go.Sv Go Go.Pl
attribute [simp] Sub_int
theorem fw_le {k : Nat} {x y : Int} (h : x.natAbs ≤ y.natAbs) (hy : fw k y) : fw k x := by unfold fw at *; exact Nat.le_trans (wid_mono (by omega) h) hy
theorem fw_floor {k : Nat} {q : Rat} (h : qw k q) : fw k q.floor := by rw [Rat.floor_def]; exact fw_le (Int.natAbs_ediv_le_natAbs _ _) h.1
theorem qw_left {k : Nat} {q : Rat} {f : Int} (hf : (f : Rat) < q) (hf' : q < (f : Rat) + 1) (h : qw k q) : qw k (q - f)⁻¹ := by
  obtain ⟨h1, h2, h3⟩ := left_inv hf
  have h4 := den_lt hf hf'
  refine ⟨by rw [h1]; exact h.2, fw_le ?_ h.2⟩
  omega
theorem qw_btw {k n : Nat} {low high : Rat} (h0 : 0 < low) (h1 : low ≤ high) (hn : low.den + high.den ≤ n) (h : qw k low) : qw k (btw n low high) := by
  obtain ⟨a1, a2, a3⟩ := btw_min h0 h1 hn
  have p1 := rat_num_pos.2 a3
  have p2 := rat_num_pos.2 h0
  exact ⟨fw_le (by omega) h.1, fw_le (by omega) h.2⟩
end Go.Proofs
namespace Go.Pl
/-- whole parts, put together from the last on -/
def bld : List Int → Rat → Rat
  | [], x => x
  | p :: l, x => (p : Rat) + (bld l x)⁻¹
theorem bld_snoc (l : List Int) (f : Int) (y : Rat) : bld (l ++ [f]) y = bld l ((f : Rat) + y⁻¹) := by
  induction l with
  | nil => rfl
  | cons p l ih => simp only [List.cons_append, bld, ih]
def prd (q : Rat) : Nat := q.num.natAbs * q.den
theorem prd_pos {q : Rat} (h : 0 < q) : 0 < prd q := Nat.mul_pos (by have := rat_num_pos.2 h; omega) (by have := q.den_nz; omega)
theorem prd_step {q : Rat} {f : Int} (hf : (f : Rat) < q) (hf' : q < (f : Rat) + 1) (h0 : 0 ≤ f) : prd (q - f)⁻¹ ≤ prd q ∧ (1 ≤ f → 2 * prd (q - f)⁻¹ ≤ prd q) := by
  obtain ⟨h1, h2, h3⟩ := left_inv hf
  have h4 := den_lt hf hf'
  have hn : 0 ≤ f * (q.den : Int) := Int.mul_nonneg h0 (by omega)
  have e : prd (q - f)⁻¹ = q.den * (q - f)⁻¹.den := by unfold prd; rw [h1]; simp
  have hp : q.num.natAbs * q.den = q.den * q.num.natAbs := Nat.mul_comm _ _
  rw [e]
  unfold prd
  rw [hp]
  refine ⟨Nat.mul_le_mul_left _ (by omega), fun hf1 => ?_⟩
  have : 2 * (q.den * (q - f)⁻¹.den) = q.den * (2 * (q - f)⁻¹.den) := by rw [Nat.mul_left_comm]
  rw [this]
  refine Nat.mul_le_mul_left _ ?_
  have : (q.den : Int) ≤ f * q.den := by
    have := Int.mul_le_mul_of_nonneg_right hf1 (show (0 : Int) ≤ q.den by omega)
    omega
  omega
end Go.Pl
namespace Go.Proofs
open Go.Sv Go Go.Pl
/-- where the document's way to the simplest fraction stands -/
structure BI (k : Nat) (v : Rat) (P0 : Nat) (parts : List Int) (low high : Rat) (n : Nat) : Prop where
  l0 : 0 < low
  lh : low ≤ high
  dn : low.den + high.den ≤ n
  kl : qw k low
  kh : qw k high
  kp : ∀ p ∈ parts, fw k p
  bv : bld parts (btw n low high) = v
  bk : ∀ i, i ≤ parts.length → qw k (bld (parts.drop i) (btw n low high)) ∧ 0 < bld (parts.drop i) (btw n low high)
  wt : 2 ^ (parts.length - 1) * (prd low * prd high) ≤ P0
  big : 1 ≤ parts.length → 1 < low
theorem BI.start {k : Nat} {low high : Rat} (h0 : 0 < low) (h1 : low ≤ high) (hl : qw k low) (hh : qw k high) : BI k (btw (low.den + high.den) low high) (prd low * prd high) [] low high (low.den + high.den) where
  l0 := h0
  lh := h1
  dn := Nat.le_refl _
  kl := hl
  kh := hh
  kp := by simp
  bv := rfl
  bk i hi := by
    have : i = 0 := by simpa using hi
    subst this
    exact ⟨qw_btw h0 h1 (Nat.le_refl _) hl, (btw_min h0 h1 (Nat.le_refl _)).2.2⟩
  wt := by simp
  big h := by simp at h
theorem BI.step {k : Nat} {v : Rat} {P0 : Nat} {parts : List Int} {low high : Rat} {n : Nat} (h : BI k v P0 parts low high n) (hc : ¬ (low.ceil : Rat) ≤ high) :
    ∃ m, n = m + 1 ∧ BI k v P0 (parts ++ [low.floor]) (high - low.floor)⁻¹ (low - low.floor)⁻¹ m ∧ fw k low.floor ∧ high - low.floor ≠ 0 ∧ low - low.floor ≠ 0 := by
  obtain ⟨a1, a2, a3, a4, a5⟩ := btw_step h.l0 h.lh hc
  have hlh := h.lh
  have hf1 : (low.floor : Rat) < high := by grind
  have hf2 : low < (low.floor : Rat) + 1 := by grind
  have d1 := den_lt a1 hf2
  have d2 := den_lt hf1 a2
  have hdn := h.dn
  have hpos := low.den_nz
  obtain ⟨m, rfl⟩ : ∃ m, n = m + 1 := ⟨n - 1, by omega⟩
  have e : btw (m + 1) low high = (low.floor : Rat) + (btw m (high - low.floor)⁻¹ (low - low.floor)⁻¹)⁻¹ := by
    conv => lhs; simp only [btw]
    rw [if_neg hc]
  have ql := qw_left a1 hf2 h.kl
  have qh := qw_left hf1 a2 h.kh
  have ff := fw_floor h.kl
  refine ⟨m, rfl, ⟨a4, a5, by omega, qh, ql, fun p hp => ?_, ?_, fun i hi => ?_, ?_, fun _ => ?_⟩, ff, by grind, by grind⟩
  · rcases List.mem_append.1 hp with hp | hp
    · exact h.kp p hp
    · simp only [List.mem_singleton] at hp; subst hp; exact ff
  · rw [bld_snoc, ← e]; exact h.bv
  · simp only [List.length_append, List.length_cons, List.length_nil] at hi
    by_cases hi' : i ≤ parts.length
    · rw [List.drop_append_of_le_length hi', bld_snoc, ← e]; exact h.bk i hi'
    · rw [List.drop_eq_nil_of_le (by simp; omega)]
      exact ⟨qw_btw a4 a5 (by omega) qh, (btw_min a4 a5 (n := m) (by omega)).2.2⟩
  · have s1 := prd_step a1 hf2 a3
    have s2 := prd_step hf1 a2 a3
    have hw := h.wt
    simp only [List.length_append, List.length_cons, List.length_nil]
    by_cases hp : 1 ≤ parts.length
    · have hb := h.big hp
      have f1 : 1 ≤ low.floor := by rw [Rat.le_floor_iff]; exact Rat.le_of_lt (by simpa using hb)
      have t1 := s1.2 f1
      have t2 := s2.1
      refine Nat.le_trans ?_ hw
      have e2 : parts.length + (0 + 1) - 1 = (parts.length - 1) + 1 := by omega
      rw [e2, Nat.pow_succ, Nat.mul_assoc]
      refine Nat.mul_le_mul_left _ ?_
      calc 2 * (prd (high - low.floor)⁻¹ * prd (low - low.floor)⁻¹) = (2 * prd (low - low.floor)⁻¹) * prd (high - low.floor)⁻¹ := by rw [Nat.mul_comm (prd (high - low.floor)⁻¹), Nat.mul_assoc]
        _ ≤ prd low * prd high := Nat.mul_le_mul t1 t2
    · have hp0 : parts.length = 0 := by omega
      rw [hp0] at hw ⊢
      simp only [Nat.zero_sub, Nat.pow_zero, Nat.one_mul, Nat.zero_add, Nat.sub_self] at hw ⊢
      have := Nat.mul_le_mul s1.1 s2.1
      rw [Nat.mul_comm (prd (high - low.floor)⁻¹)]
      omega
  · have g1 : (high - low.floor)⁻¹ * (high - low.floor) = 1 := Rat.inv_mul_cancel _ (by grind)
    have v0 : 0 < high - low.floor := by grind
    have v1 : high - low.floor < 1 := by grind
    generalize (high - low.floor : Rat) = u at *
    have : u⁻¹ * u < u⁻¹ * 1 := (Rat.mul_lt_mul_left a4).2 v1
    grind

theorem prd_lt {k : Nat} {q : Rat} (h : qw k q) : prd q < 2 ^ (64 * k) := by
  have h1 := lt_wid (B := 4294967296) (by omega) q.num.natAbs
  have h2 := lt_wid (B := 4294967296) (by omega) q.den
  have h3 : 4294967296 ^ wid 4294967296 q.num.natAbs ≤ 4294967296 ^ k := Nat.pow_le_pow_right (by omega) h.1
  have h4 : 4294967296 ^ wid 4294967296 q.den ≤ 4294967296 ^ k := Nat.pow_le_pow_right (by omega) (by have := h.2; simpa [fw] using this)
  have e : (2 : Nat) ^ (64 * k) = 4294967296 ^ k * 4294967296 ^ k := by
    rw [← Nat.mul_pow, Nat.pow_mul]
  rw [e]
  unfold prd
  exact Nat.mul_lt_mul_of_lt_of_le (by omega) (by omega) (by omega)
theorem BI.len {k : Nat} {v : Rat} {low0 high0 : Rat} {parts : List Int} {low high : Rat} {n : Nat} (h : BI k v (prd low0 * prd high0) parts low high n) (h1 : qw k low0) (h2 : qw k high0) : parts.length ≤ 128 * k + 1 := by
  have p1 := prd_lt h1
  have p2 := prd_lt h2
  have p3 := prd_pos h.l0
  have p4 := prd_pos (q := high) (by have := h.l0; have := h.lh; grind)
  have p5 : 0 < prd low * prd high := Nat.mul_pos p3 p4
  have hw := h.wt
  have hlt : 2 ^ (parts.length - 1) < 2 ^ (128 * k) := by
    refine Nat.lt_of_le_of_lt (Nat.le_trans (Nat.le_mul_of_pos_right _ p5) hw) ?_
    have e : (2 : Nat) ^ (128 * k) = 2 ^ (64 * k) * 2 ^ (64 * k) := by rw [← Nat.pow_add]; congr 1; omega
    rw [e]
    exact Nat.mul_lt_mul_of_lt_of_le p1 (by omega) (by omega)
  have := (Nat.pow_lt_pow_iff_right (a := 2) (by omega)).1 hlt
  omega
@[simp] theorem okE_nsv (l : List Int) : okE 2 (l.map nsv) = True := by cases l <;> simp [okE]
@[simp] theorem okE_nsvapp (l : List Int) (r : List SV) : okE 2 (l.map nsv ++ r) = (l = [] → okE 2 r) := by cases l <;> simp [okE]
def bv (b : Bool) : SV := .val (.bool b)
@[simp] theorem okE_bv (l : List Bool) : okE 1 (l.map bv) = True := by cases l <;> simp [okE, bv]
@[simp] theorem okE_bvapp (l : List Bool) (r : List SV) : okE 1 (l.map bv ++ r) = (l = [] → okE 1 r) := by cases l <;> simp [okE, bv]
@[simp] theorem bv_lt (n : Nat) (b : Bool) : (bv b).lt n = true := rfl
@[simp] theorem bv_uses (n : Nat) (b : Bool) : (bv b).uses n = false := rfl
@[simp] theorem bv_pure (b : Bool) : (bv b).pure = true := rfl
@[simp] theorem bv_isTup (b : Bool) : (bv b).isTup = false := rfl
theorem rsv_zero : rsv 0 = .agg [.val (.bool false), .ro [], .val (.bool false), .ro []] := rfl
theorem num_neg {q : Rat} : q.num < 0 ↔ q < 0 := by
  have := Rat.num_nonneg (q := q); rw [← Rat.not_le, ← this]; omega
/-- the document's fraction that was not set -/
def qnil : SV := .agg [.val (.bool false), .ro [], .val (.bool false), .ro []]
@[simp] theorem qnil_csz : qnil.csz = 4 := rfl
@[simp] theorem qnil_isTup : qnil.isTup = false := rfl
@[simp] theorem qnil_isAgg : qnil.isAgg = true := rfl
@[simp] theorem qnil_one : qnil.one = false := rfl
@[simp] theorem qnil_pure : qnil.pure = true := rfl
@[simp] theorem qnil_lt (n : Nat) : qnil.lt n = true := rfl
@[simp] theorem qnil_uses (k : Nat) : qnil.uses k = false := rfl
@[simp] theorem qnil_ks : qnil.ks = [] := rfl
end Go.Proofs

