/- What the function Simplest of package ratio returns, and the document's. A text of the prover's own. -/
import Derived.Test.YtgiagombkgjhfaaDoorQQf
namespace Go.Pl
theorem rat_le_num {q : Rat} : q * ((q.den : Int) : Rat) ≤ (q.num : Rat) := by rw [rat_eq]; exact Rat.le_refl
theorem btw_min {n : Nat} {low high : Rat} (h0 : 0 < low) (h1 : low ≤ high) (hn : low.den + high.den ≤ n) : (btw n low high).num ≤ low.num ∧ (btw n low high).den ≤ low.den ∧ 0 < btw n low high := by
  obtain ⟨b1, b2, b3⟩ := btw_ok n low high h0 h1 hn
  have hd : (0 : Rat) < ((low.den : Int) : Rat) := Rat.intCast_pos.2 (rat_den_pos low)
  have := b3 low.num low.den (rat_den_pos low) rat_le_num (by rw [← rat_eq]; exact Rat.mul_le_mul_of_nonneg_right h1 (Rat.le_of_lt hd))
  exact ⟨this.1, by omega, by grind⟩
end Go.Pl
namespace Go.Proofs
open Go.Sv Go Go.Pl
attribute [simp] Sub_int
theorem fw_le {k : Nat} {x y : Int} (h : x.natAbs ≤ y.natAbs) (hy : fw k y) : fw k x := by unfold fw at *; exact Nat.le_trans (wid_mono (by omega) h) hy
theorem fw_floor {k : Nat} {q : Rat} (h : qw k q) : fw k q.floor := by rw [Rat.floor_def]; exact fw_le (Int.natAbs_ediv_le_natAbs _ _) h.1
theorem fw_ceil {k : Nat} {q : Rat} (h : qw k q) : fw k q.ceil := by
  rw [Rat.ceil_eq_neg_floor_neg]; exact fw_neg (fw_floor (qw_neg h))
theorem qw_left {k : Nat} {q : Rat} {f : Int} (hf : (f : Rat) < q) (hf' : q < (f : Rat) + 1) (h : qw k q) : qw k (q - f)⁻¹ := by
  obtain ⟨h1, h2, h3⟩ := left_inv hf
  have h4 := den_lt hf hf'
  refine ⟨by rw [h1]; exact h.2, fw_le ?_ h.2⟩
  omega
theorem qw_btw {k n : Nat} {low high : Rat} (h0 : 0 < low) (h1 : low ≤ high) (hn : low.den + high.den ≤ n) (h : qw k low) : qw k (btw n low high) := by
  obtain ⟨a1, a2, a3⟩ := btw_min h0 h1 hn
  have p1 := rat_num_pos.2 a3
  have p2 := rat_num_pos.2 h0
  exact ⟨fw_le (by omega) h.1, fw_le (by omega) h.2⟩
theorem qOne_ok : PureF Tryd.prog 40 [.val (.int .i64 1)] (rsv 1) := qInt_ok 1 (by omega) (by omega)
theorem qok_one : qok 1 := qok_of (k := 1) ⟨fw_one (Nat.le_refl 1), fw_one (Nat.le_refl 1)⟩ (by omega)
theorem one_div (x : Rat) : 1 / x = x⁻¹ := by rw [Rat.div_def, Rat.one_mul]
set_option maxRecDepth 10000 in
theorem qBetween_ok : ∀ (n : Nat) (low high : Rat), 0 < low → low ≤ high → low.den + high.den ≤ n → qw 1000000000 low → qw 1000000000 high → PureF Tryd.prog 99 [rsv low, rsv high] (rsv (btw n low high))
  | 0, low, high, _, _, hn, _, _ => by have := low.den_nz; omega
  | n + 1, low, high, h0, h1, hn, hl, hh => by
    refine pure_enter Tryd.func99 rfl (by simp) (fun C hC => ?_)
    have kl := qok_of hl (by omega)
    have kh := qok_of hh (by omega)
    obtain ⟨x, hx⟩ : ∃ x, x = btw (n + 1) low high := ⟨_, rfl⟩
    rw [← hx]
    simp only [btw] at hx
    have kc : qok (low.ceil : Rat) := qok_of (qw_int (fw_ceil hl) (by omega)) (by omega)
    simp
    refine callS (qCeil_ok low kl) (by simp) ?_
    simp
    refine callF (qCmp_ok (low.ceil : Rat) high kc kh) (by simp) ?_
    by_cases hc : (low.ceil : Rat) ≤ high
    · rw [if_pos hc] at hx
      have hc' : ¬ high < (low.ceil : Rat) := Rat.not_lt.2 hc
      by_cases hc2 : (low.ceil : Rat) < high
      · simp [hc2, hx]
      · simp [hc', hc2, hx]
    · rw [if_neg hc] at hx
      have hc1 : high < (low.ceil : Rat) := Rat.not_le.1 hc
      have hc2 : ¬ (low.ceil : Rat) < high := fun h => hc (Rat.le_of_lt h)
      simp [hc1, hc2]
      obtain ⟨a1, a2, a3, a4, a5⟩ := btw_step h0 h1 hc
      have hf1 : (low.floor : Rat) < high := by grind
      have hf2 : low < (low.floor : Rat) + 1 := by grind
      have d1 := den_lt a1 hf2
      have d2 := den_lt hf1 a2
      have kf : qw 1000000000 (low.floor : Rat) := qw_int (fw_floor hl) (by omega)
      have u1 : high - low.floor ≠ 0 := by grind
      have u2 : low - low.floor ≠ 0 := by grind
      have ql := qw_left a1 hf2 hl
      have qh := qw_left hf1 a2 hh
      have ih := qBetween_ok n _ _ a4 a5 (by omega) qh ql
      have qx := qw_btw a4 a5 (by omega) qh (n := n)
      have px := (btw_min a4 a5 (n := n) (by omega)).2.2
      have hfl := qFloor_ok low kl
      have s1 := qSub_ok high low.floor kh (qok_of kf (by omega))
      have s2 := qSub_ok low low.floor kl (qok_of kf (by omega))
      have i1 := qQuo_ok 1 (high - low.floor) qok_one (qok_of (qw_sub hh kf) (by omega))
      have i2 := qQuo_ok 1 (low - low.floor) qok_one (qok_of (qw_sub hl kf) (by omega))
      rw [one_div] at i1 i2
      simp only [u1, u2, ne_eq, not_false_eq_true, decide_true] at i1 i2
      generalize low.floor = f at *
      generalize (high - f)⁻¹ = a at *
      generalize (low - f)⁻¹ = b at *
      generalize btw n a b = y at *
      have i3 := qQuo_ok 1 y qok_one (qok_of qx (by omega))
      have y0 : y ≠ 0 := by grind
      rw [one_div] at i3
      simp only [y0, ne_eq, not_false_eq_true, decide_true] at i3
      have s3 := qAdd_ok (f : Rat) y⁻¹ (qok_of kf (by omega)) (qok_of (qw_inv qx (by omega)) (by omega))
      rw [← hx] at s3
      refine callS hfl (by simp) ?_
      simp
      refine callS qOne_ok (by simp) ?_
      simp
      refine CodeJ.drawZ (.d 8 <| .qs [0, 1, 2] <| .p 3 <| .p 4 <| .qs [5, 6, 7] <| .b ( .l 9 [6] <| .qs [10] <| .nil )) (by kernel_rfl) (by kernel_rfl) (by simp) ?_
      simp
      refine callU s1 (by simp) (by simp) ?_
      simp
      refine callV i1 (by simp) ?_
      simp
      refine CodeJ.drawZ (.d 8 <| .qs [0, 1, 2] <| .p 3 <| .p 4 <| .qs [5, 6, 7] <| .b ( .l 9 [7] <| .qs [10] <| .nil )) (by kernel_rfl) (by kernel_rfl) (by simp) ?_
      simp
      refine callU s2 (by simp) (by simp) ?_
      simp
      refine callV i2 (by simp) ?_
      simp
      refine CodeJ.drawZ (.d 8 <| .qs [0, 1, 2] <| .p 3 <| .p 4 <| .qs [5, 6, 7] <| .b ( .l 9 [8] <| .qs [10] <| .nil )) (by kernel_rfl) (by kernel_rfl) (by simp) ?_
      simp
      refine callV ih (by simp) ?_
      simp
      refine callV i3 (by simp) ?_
      simp
      refine callF s3 (by simp) ?_
      simp
end Go.Proofs
namespace Go.Pl
/-- the simplest fraction from low to high; whether there is one -/
def smp (low high : Rat) : Rat × Bool :=
  if high < low then (0, false)
  else if low ≤ 0 ∧ 0 ≤ high then (0, true)
  else if high < 0 then (-(btw (low.den + high.den) (-high) (-low)), true)
  else (btw (low.den + high.den) low high, true)
/-- whole parts, put together from the last on -/
def bld : List Int → Rat → Rat
  | [], x => x
  | p :: l, x => (p : Rat) + (bld l x)⁻¹
theorem bld_snoc (l : List Int) (f : Int) (y : Rat) : bld (l ++ [f]) y = bld l ((f : Rat) + y⁻¹) := by
  induction l with
  | nil => rfl
  | cons p l ih => simp only [List.cons_append, bld, ih]
def prd (q : Rat) : Nat := q.num.natAbs * q.den
theorem prd_pos {q : Rat} (h : 0 < q) : 0 < prd q := Nat.mul_pos (by have := rat_num_pos.2 h; omega) (by have := q.den_nz; omega)
theorem prd_step {q : Rat} {f : Int} (hf : (f : Rat) < q) (hf' : q < (f : Rat) + 1) (h0 : 0 ≤ f) : prd (q - f)⁻¹ ≤ prd q ∧ (1 ≤ f → 2 * prd (q - f)⁻¹ ≤ prd q) := by
  obtain ⟨h1, h2, h3⟩ := left_inv hf
  have h4 := den_lt hf hf'
  have hn : 0 ≤ f * (q.den : Int) := Int.mul_nonneg h0 (by omega)
  have e : prd (q - f)⁻¹ = q.den * (q - f)⁻¹.den := by unfold prd; rw [h1]; simp
  have hp : q.num.natAbs * q.den = q.den * q.num.natAbs := Nat.mul_comm _ _
  rw [e]
  unfold prd
  rw [hp]
  refine ⟨Nat.mul_le_mul_left _ (by omega), fun hf1 => ?_⟩
  have : 2 * (q.den * (q - f)⁻¹.den) = q.den * (2 * (q - f)⁻¹.den) := by rw [Nat.mul_left_comm]
  rw [this]
  refine Nat.mul_le_mul_left _ ?_
  have : (q.den : Int) ≤ f * q.den := by
    have := Int.mul_le_mul_of_nonneg_right hf1 (show (0 : Int) ≤ q.den by omega)
    omega
  omega
end Go.Pl
namespace Go.Proofs
open Go.Sv Go Go.Pl
/-- where the document's way to the simplest fraction stands -/
structure BI (k : Nat) (v : Rat) (P0 : Nat) (parts : List Int) (low high : Rat) (n : Nat) : Prop where
  l0 : 0 < low
  lh : low ≤ high
  dn : low.den + high.den ≤ n
  kl : qw k low
  kh : qw k high
  kp : ∀ p ∈ parts, fw k p
  bv : bld parts (btw n low high) = v
  bk : ∀ i, i ≤ parts.length → qw k (bld (parts.drop i) (btw n low high)) ∧ 0 < bld (parts.drop i) (btw n low high)
  wt : 2 ^ (parts.length - 1) * (prd low * prd high) ≤ P0
  big : 1 ≤ parts.length → 1 < low
theorem BI.start {k : Nat} {low high : Rat} (h0 : 0 < low) (h1 : low ≤ high) (hl : qw k low) (hh : qw k high) : BI k (btw (low.den + high.den) low high) (prd low * prd high) [] low high (low.den + high.den) where
  l0 := h0
  lh := h1
  dn := Nat.le_refl _
  kl := hl
  kh := hh
  kp := by simp
  bv := rfl
  bk i hi := by
    have : i = 0 := by simpa using hi
    subst this
    exact ⟨qw_btw h0 h1 (Nat.le_refl _) hl, (btw_min h0 h1 (Nat.le_refl _)).2.2⟩
  wt := by simp
  big h := by simp at h
theorem BI.step {k : Nat} {v : Rat} {P0 : Nat} {parts : List Int} {low high : Rat} {n : Nat} (h : BI k v P0 parts low high n) (hc : ¬ (low.ceil : Rat) ≤ high) :
    ∃ m, n = m + 1 ∧ BI k v P0 (parts ++ [low.floor]) (high - low.floor)⁻¹ (low - low.floor)⁻¹ m ∧ fw k low.floor ∧ high - low.floor ≠ 0 ∧ low - low.floor ≠ 0 := by
  obtain ⟨a1, a2, a3, a4, a5⟩ := btw_step h.l0 h.lh hc
  have hlh := h.lh
  have hf1 : (low.floor : Rat) < high := by grind
  have hf2 : low < (low.floor : Rat) + 1 := by grind
  have d1 := den_lt a1 hf2
  have d2 := den_lt hf1 a2
  have hdn := h.dn
  have hpos := low.den_nz
  obtain ⟨m, rfl⟩ : ∃ m, n = m + 1 := ⟨n - 1, by omega⟩
  have e : btw (m + 1) low high = (low.floor : Rat) + (btw m (high - low.floor)⁻¹ (low - low.floor)⁻¹)⁻¹ := by
    conv => lhs; simp only [btw]
    rw [if_neg hc]
  have ql := qw_left a1 hf2 h.kl
  have qh := qw_left hf1 a2 h.kh
  have ff := fw_floor h.kl
  refine ⟨m, rfl, ⟨a4, a5, by omega, qh, ql, fun p hp => ?_, ?_, fun i hi => ?_, ?_, fun _ => ?_⟩, ff, by grind, by grind⟩
  · rcases List.mem_append.1 hp with hp | hp
    · exact h.kp p hp
    · simp only [List.mem_singleton] at hp; subst hp; exact ff
  · rw [bld_snoc, ← e]; exact h.bv
  · simp only [List.length_append, List.length_cons, List.length_nil] at hi
    by_cases hi' : i ≤ parts.length
    · rw [List.drop_append_of_le_length hi', bld_snoc, ← e]; exact h.bk i hi'
    · rw [List.drop_eq_nil_of_le (by simp; omega)]
      exact ⟨qw_btw a4 a5 (by omega) qh, (btw_min a4 a5 (n := m) (by omega)).2.2⟩
  · have s1 := prd_step a1 hf2 a3
    have s2 := prd_step hf1 a2 a3
    have hw := h.wt
    simp only [List.length_append, List.length_cons, List.length_nil]
    by_cases hp : 1 ≤ parts.length
    · have hb := h.big hp
      have f1 : 1 ≤ low.floor := by rw [Rat.le_floor_iff]; exact Rat.le_of_lt (by simpa using hb)
      have t1 := s1.2 f1
      have t2 := s2.1
      refine Nat.le_trans ?_ hw
      have e2 : parts.length + (0 + 1) - 1 = (parts.length - 1) + 1 := by omega
      rw [e2, Nat.pow_succ, Nat.mul_assoc]
      refine Nat.mul_le_mul_left _ ?_
      calc 2 * (prd (high - low.floor)⁻¹ * prd (low - low.floor)⁻¹) = (2 * prd (low - low.floor)⁻¹) * prd (high - low.floor)⁻¹ := by rw [Nat.mul_comm (prd (high - low.floor)⁻¹), Nat.mul_assoc]
        _ ≤ prd low * prd high := Nat.mul_le_mul t1 t2
    · have hp0 : parts.length = 0 := by omega
      rw [hp0] at hw ⊢
      simp only [Nat.zero_sub, Nat.pow_zero, Nat.one_mul, Nat.zero_add, Nat.sub_self] at hw ⊢
      have := Nat.mul_le_mul s1.1 s2.1
      rw [Nat.mul_comm (prd (high - low.floor)⁻¹)]
      omega
  · have g1 : (high - low.floor)⁻¹ * (high - low.floor) = 1 := Rat.inv_mul_cancel _ (by grind)
    have v0 : 0 < high - low.floor := by grind
    have v1 : high - low.floor < 1 := by grind
    generalize (high - low.floor : Rat) = u at *
    have : u⁻¹ * u < u⁻¹ * 1 := (Rat.mul_lt_mul_left a4).2 v1
    grind

theorem prd_lt {k : Nat} {q : Rat} (h : qw k q) : prd q < 2 ^ (64 * k) := by
  have h1 := lt_wid (B := 4294967296) (by omega) q.num.natAbs
  have h2 := lt_wid (B := 4294967296) (by omega) q.den
  have h3 : 4294967296 ^ wid 4294967296 q.num.natAbs ≤ 4294967296 ^ k := Nat.pow_le_pow_right (by omega) h.1
  have h4 : 4294967296 ^ wid 4294967296 q.den ≤ 4294967296 ^ k := Nat.pow_le_pow_right (by omega) (by have := h.2; simpa [fw] using this)
  have e : (2 : Nat) ^ (64 * k) = 4294967296 ^ k * 4294967296 ^ k := by
    rw [← Nat.mul_pow, Nat.pow_mul]
  rw [e]
  unfold prd
  exact Nat.mul_lt_mul_of_lt_of_le (by omega) (by omega) (by omega)
theorem BI.len {k : Nat} {v : Rat} {low0 high0 : Rat} {parts : List Int} {low high : Rat} {n : Nat} (h : BI k v (prd low0 * prd high0) parts low high n) (h1 : qw k low0) (h2 : qw k high0) : parts.length ≤ 128 * k + 1 := by
  have p1 := prd_lt h1
  have p2 := prd_lt h2
  have p3 := prd_pos h.l0
  have p4 := prd_pos (q := high) (by have := h.l0; have := h.lh; grind)
  have p5 : 0 < prd low * prd high := Nat.mul_pos p3 p4
  have hw := h.wt
  have hlt : 2 ^ (parts.length - 1) < 2 ^ (128 * k) := by
    refine Nat.lt_of_le_of_lt (Nat.le_trans (Nat.le_mul_of_pos_right _ p5) hw) ?_
    have e : (2 : Nat) ^ (128 * k) = 2 ^ (64 * k) * 2 ^ (64 * k) := by rw [← Nat.pow_add]; congr 1; omega
    rw [e]
    exact Nat.mul_lt_mul_of_lt_of_le p1 (by omega) (by omega)
  have := (Nat.pow_lt_pow_iff_right (a := 2) (by omega)).1 hlt
  omega
@[simp] theorem okE_nsv (l : List Int) : okE 2 (l.map nsv) = True := by cases l <;> simp [okE]
@[simp] theorem okE_nsvapp (l : List Int) (r : List SV) : okE 2 (l.map nsv ++ r) = (l = [] → okE 2 r) := by cases l <;> simp [okE]
theorem lget_nsv {l : List Int} {i : Nat} (h : i < l.length) : lget (l.map nsv) i = nsv (l[i]'h) := by
  rw [lget_map _ _ _ h]; simp [h]
theorem drop_bld {l : List Int} {i : Nat} (x : Rat) (h : i < l.length) : bld (l.drop i) x = ((l[i]'h : Int) : Rat) + (bld (l.drop (i + 1)) x)⁻¹ := by
  rw [List.drop_eq_getElem_cons h]; rfl
theorem pOne_ok : PureF Tryd.prog 100 [.val (.int .i64 1)] (qsv 1) := pInt_ok 1 (by omega) (by omega)
set_option maxRecDepth 10000 in
theorem pBuilt_ok (parts : List Int) (x : Rat) (hl : parts.length ≤ 1000000000000) (hp : ∀ p ∈ parts, fw 1000000000 p) (hb : ∀ i, i ≤ parts.length → qw 1000000000 (bld (parts.drop i) x) ∧ 0 < bld (parts.drop i) x) :
    PureF Tryd.prog 115 [.ro (parts.map nsv), qsv x] (qsv (bld parts x)) := by
  refine pure_enter Tryd.func115 rfl (by simp) (fun C hC => ?_)
  simp (disch := omega) [w64]
  refine CodeJ.loop (ι := Nat) (fun m => ⟨27, [(0, .ro (parts.map nsv)), (4, .ptr 1 0 0), (5, .ptr 2 0 0), (6, .val (.int .i64 ((m : Int) - 1)))],
      [some ⟨4, [qsv x], false⟩, some ⟨4, [.agg [.val (.bool false), .val (.slice none 0 0), .val (.bool false), .val (.slice none 0 0)]], false⟩, some ⟨4, [qsv (bld (parts.drop m) x)], false⟩]⟩)
    (fun m => m ≤ parts.length) (fun m => m) parts.length ?_ ?_ ?_
  · exact Nat.le_refl _
  · simp [leS, hC, bld]
  · rintro m hm
    cases m with
    | zero =>
      simp
    | succ i =>
      have hi : i < parts.length := hm
      have e := lget_nsv hi
      obtain ⟨b1, b2⟩ := hb (i + 1) (by omega)
      have hpi := hp _ (List.getElem_mem hi)
      have eb := drop_bld x hi
      obtain ⟨p, hpe⟩ : ∃ p, p = parts[i] := ⟨_, rfl⟩
      rw [← hpe] at e hpi eb
      generalize hy : bld (parts.drop (i + 1)) x = y at *
      have i3 := pQuo_ok 1 y qok_one (qok_of b1 (by omega)) (by grind)
      rw [one_div] at i3
      have s3 := pAdd_ok (p : Rat) y⁻¹ (qok_of (qw_int hpi (by omega)) (by omega)) (qok_of (qw_inv b1 (by omega)) (by omega))
      rw [← eb] at s3
      simp
      refine CodeJ.drawZ (.d 3 <| .qs [1] <| .p 0 <| .p 2 <| .b ( .l 4 [3] <| .nil )) (by kernel_rfl) (by kernel_rfl) (by simp) ?_
      simp
      refine callV pOne_ok (by simp) ?_
      simp
      refine callV i3 (by simp) ?_
      simp
      refine CodeJ.draw (.qs [0, 1, 2, 3, 5] <| .l 4 [] <| .l 6 [] <| .l 7 [2] <| .nil) (by kernel_rfl) (by kernel_rfl) (by simp) ?_
      simp (disch := omega) [e, hi]
      refine callS (pWhole_ok p) (by simp) ?_
      simp
      refine callS s3 (by simp) ?_
      simp (disch := omega) [w64]
      exact ⟨i, by omega, by omega, by simp [leS, hC]⟩

def bv (b : Bool) : SV := .val (.bool b)
@[simp] theorem okE_bv (l : List Bool) : okE 1 (l.map bv) = True := by cases l <;> simp [okE, bv]
@[simp] theorem okE_bvapp (l : List Bool) (r : List SV) : okE 1 (l.map bv ++ r) = (l = [] → okE 1 r) := by cases l <;> simp [okE, bv]
theorem bv_true : SV.val (.bool true) = bv true := rfl
@[simp] theorem bv_lt (n : Nat) (b : Bool) : (bv b).lt n = true := rfl
@[simp] theorem bv_uses (n : Nat) (b : Bool) : (bv b).uses n = false := rfl
@[simp] theorem bv_pure (b : Bool) : (bv b).pure = true := rfl
@[simp] theorem bv_isTup (b : Bool) : (bv b).isTup = false := rfl
set_option maxRecDepth 10000 in
theorem pBetween_ok (low0 high0 : Rat) (h0 : 0 < low0) (h1 : low0 ≤ high0) (hl : qw 1000000000 low0) (hh : qw 1000000000 high0) :
    PureF Tryd.prog 101 [qsv low0, qsv high0] (qsv (btw (low0.den + high0.den) low0 high0)) := by
  refine pure_enter Tryd.func101 rfl (by simp) (fun C hC => ?_)
  have start := BI.start h0 h1 hl hh
  obtain ⟨v, hv⟩ : ∃ v, v = btw (low0.den + high0.den) low0 high0 := ⟨_, rfl⟩
  rw [← hv] at start ⊢
  simp
  refine CodeJ.nil 5 2 rfl ?_
  refine CodeJ.nil 6 1 rfl ?_
  refine CodeJ.loop (ι := List Int × List Bool × Rat × Rat × Nat) (fun ⟨parts, tn, low, high, n⟩ => ⟨47, [(2, .ptr 0 0 0), (3, .ptr 1 0 0), (4, .ptr 2 0 0), (5, .view 3 0 parts.length), (6, .view 4 0 tn.length)],
      [some ⟨4, [qsv low], false⟩, some ⟨4, [qsv high], false⟩, some ⟨4, [.agg [.val (.bool false), .val (.slice none 0 0), .val (.bool false), .val (.slice none 0 0)]], false⟩, some ⟨2, parts.map nsv, false⟩, some ⟨1, tn.map bv, false⟩]⟩)
    (fun ⟨parts, tn, low, high, n⟩ => BI 1000000000 v (prd low0 * prd high0) parts low high n ∧ tn.length = parts.length) (fun ⟨parts, tn, low, high, n⟩ => n) ([], [], low0, high0, low0.den + high0.den) ?_ ?_ ?_
  · exact ⟨start, rfl⟩
  · simp [leS, hC]
  · rintro ⟨parts, tn, low, high, n⟩ ⟨hB, htn⟩
    have hlen := hB.len hl hh
    have kl := qok_of hB.kl (by omega)
    have kh := qok_of hB.kh (by omega)
    have fc := fw_ceil hB.kl
    have kc : qok (low.ceil : Rat) := qok_of (qw_int fc (by omega)) (by omega)
    simp
    refine callS (pCeil_ok low kl) (by simp) ?_
    simp
    refine CodeJ.draw (.qs [0, 2] <| .l 1 [] <| .l 3 [] <| .qs [4] <| .nil) (by kernel_rfl) (by kernel_rfl) (by simp) ?_
    simp
    refine callS (pWhole_ok low.ceil) (by simp) ?_
    simp
    refine callS (pCmp_ok (low.ceil : Rat) high kc kh) (by simp) ?_
    by_cases hc : (low.ceil : Rat) ≤ high
    · have hc' : ¬ high < (low.ceil : Rat) := Rat.not_lt.2 hc
      have hn : ∃ m, n = m + 1 := ⟨n - 1, by have := hB.dn; have := low.den_nz; omega⟩
      obtain ⟨m, rfl⟩ := hn
      have eb : btw (m + 1) low high = (low.ceil : Rat) := by simp only [btw]; rw [if_pos hc]
      have e5 := hB.bv
      have e6 := hB.bk
      rw [eb] at e5 e6
      have hbu := pBuilt_ok parts (low.ceil : Rat) (by omega) hB.kp e6
      rw [e5] at hbu
      by_cases hc2 : (low.ceil : Rat) < high
      all_goals
        simp [hc2, hc']
        refine callS (pWhole_ok low.ceil) (by simp) ?_
        simp
        refine callF hbu (by simp [List.take_of_length_le]) ?_
        simp
    · obtain ⟨m, rfl, hB', ff, u1, u2⟩ := hB.step hc
      have hc1 : high < (low.ceil : Rat) := Rat.not_le.1 hc
      have hc2 : ¬ (low.ceil : Rat) < high := fun h => hc (Rat.le_of_lt h)
      have hfl := pFloor_ok low kl
      have kf : qw 1000000000 (low.floor : Rat) := qw_int ff (by omega)
      have s1 := pSub_ok low low.floor kl (qok_of kf (by omega))
      have s2 := pSub_ok high low.floor kh (qok_of kf (by omega))
      have i1 := pQuo_ok 1 (high - low.floor) qok_one (qok_of (qw_sub hB.kh kf) (by omega)) u1
      have i2 := pQuo_ok 1 (low - low.floor) qok_one (qok_of (qw_sub hB.kl kf) (by omega)) u2
      rw [one_div] at i1 i2
      generalize low.floor = f at *
      simp [hc1, hc2]
      refine callS hfl (by simp) ?_
      simp
      refine ⟨⟨by simp [hC], by omega⟩, ⟨by simp [hC], by omega⟩, ?_⟩
      refine CodeJ.drawZ (.d 4 <| .qs [0, 1] <| .p 2 <| .p 3 <| .b ( .l 5 [9] <| .nil )) (by kernel_rfl) (by kernel_rfl) (by simp) ?_
      simp
      refine callV (pWhole_ok f) (by simp) ?_
      simp
      refine callV s1 (by simp) ?_
      simp
      refine CodeJ.drawZ (.d 4 <| .qs [0, 1] <| .p 2 <| .p 3 <| .b ( .l 5 [10] <| .nil )) (by kernel_rfl) (by kernel_rfl) (by simp) ?_
      simp
      refine callV (pWhole_ok f) (by simp) ?_
      simp
      refine callV s2 (by simp) ?_
      simp
      refine CodeJ.draw (.qs [1] <| .l 0 [] <| .l 2 [] <| .l 3 [0] <| .nil) (by kernel_rfl) (by kernel_rfl) (by simp) ?_
      simp
      refine callS pOne_ok (by simp) ?_
      simp
      refine callS i1 (by simp) ?_
      simp
      refine CodeJ.draw (.qs [1] <| .l 0 [] <| .l 2 [] <| .l 3 [1] <| .nil) (by kernel_rfl) (by kernel_rfl) (by simp) ?_
      simp
      refine callS pOne_ok (by simp) ?_
      simp
      refine callS i2 (by simp) ?_
      simp
      exact ⟨parts ++ [f], tn ++ [true], _, _, m, ⟨hB', by simp [htn]⟩, by omega, by simp [leS, hC, bv]⟩

theorem smp_pos {low high : Rat} (h1 : ¬ high < low) (h2 : ¬ (low ≤ 0 ∧ 0 ≤ high)) : (high < 0 ∧ 0 < -high ∧ -high ≤ -low) ∨ (¬ high < 0 ∧ 0 < low ∧ low ≤ high) := by
  by_cases h : high < 0
  · left; grind
  · right; grind
theorem qw_smp {k : Nat} {low high : Rat} (hl : qw k low) (hh : qw k high) (hk : 1 ≤ k) : qw k (smp low high).1 := by
  have hz : qw k 0 := ⟨fw_zero k, fw_one hk⟩
  unfold smp
  by_cases h1 : high < low
  · rw [if_pos h1]; exact hz
  · rw [if_neg h1]
    by_cases h2 : low ≤ 0 ∧ 0 ≤ high
    · rw [if_pos h2]; exact hz
    · rw [if_neg h2]
      rcases smp_pos h1 h2 with ⟨h3, h4, h5⟩ | ⟨h3, h4, h5⟩
      · rw [if_pos h3]; exact qw_neg (qw_btw h4 h5 (by simp; omega) (qw_neg hh))
      · rw [if_neg h3]; exact qw_btw h4 h5 (Nat.le_refl _) hl
theorem rsv_zero : rsv 0 = .agg [.val (.bool false), .ro [], .val (.bool false), .ro []] := rfl
theorem num_nonpos {q : Rat} : q.num ≤ 0 ↔ q ≤ 0 := by
  have := rat_num_pos (q := q); rw [← Rat.not_lt, ← this]; omega
theorem num_neg {q : Rat} : q.num < 0 ↔ q < 0 := by
  have := Rat.num_nonneg (q := q); rw [← Rat.not_le, ← this]; omega
set_option maxRecDepth 10000 in
theorem qSimplest_ok (low high : Rat) (hl : qw 1000000000 low) (hh : qw 1000000000 high) : PureF Tryd.prog 67 [rsv low, rsv high] (.tup [rsv (smp low high).1, .val (.bool (smp low high).2)]) := by
  refine pure_enter Tryd.func67 rfl (by simp) (fun C hC => ?_)
  have kl := qok_of hl (by omega)
  have kh := qok_of hh (by omega)
  simp
  refine callS (qCmp_ok low high kl kh) (by simp) ?_
  by_cases h1 : high < low
  · have h1' : ¬ low < high := by grind
    simp [h1, h1', smp, rsv_zero]
  · have hle : ¬ 0 < (if low < high then (-1 : Int) else if high < low then 1 else 0) := by rw [if_neg h1]; split <;> omega
    simp [hle]
    refine callS (qSign_ok low) (by simp) ?_
    by_cases h2 : low ≤ 0 ∧ 0 ≤ high
    · simp [num_nonpos.2 h2.1]
      refine callS (qSign_ok high) (by simp) ?_
      simp [h2.2, smp, h1, h2, rsv_zero]
    · by_cases h3 : low ≤ 0
      case' pos =>
        have h4 : ¬ 0 ≤ high := fun h => h2 ⟨h3, h⟩
        simp [num_nonpos.2 h3]
        refine callS (qSign_ok high) (by simp) ?_
        simp [h4]
      case' neg =>
        have h3' : ¬ low.num ≤ 0 := fun h => h3 (num_nonpos.1 h)
        simp [h3']
      all_goals
        refine callS (qSign_ok high) (by simp) ?_
        rcases smp_pos h1 h2 with ⟨n1, n2, n3⟩ | ⟨n1, n2, n3⟩
        · have e : smp low high = (-(btw (low.den + high.den) (-high) (-low)), true) := by unfold smp; rw [if_neg h1, if_neg h2, if_pos n1]
          have hb := qBetween_ok (low.den + high.den) (-high) (-low) n2 n3 (by simp; omega) (qw_neg hh) (qw_neg hl)
          rw [e]
          generalize btw (low.den + high.den) (-high) (-low) = y at *
          simp [num_neg.2 n1]
          refine CodeJ.drawZ (.d 5 <| .qs [0, 2] <| .p 1 <| .p 3 <| .p 4 <| .b ( .l 6 [3] <| .nil )) (by kernel_rfl) (by kernel_rfl) (by simp) ?_
          simp
          refine callV (qNeg_ok high) (by simp) ?_
          simp
          refine callV (qNeg_ok low) (by simp) ?_
          simp
          refine callV hb (by simp) ?_
          simp
          refine callS (qNeg_ok y) (by simp) ?_
          simp
        · have n1' : ¬ high.num < 0 := fun h => n1 (num_neg.1 h)
          have e : smp low high = (btw (low.den + high.den) low high, true) := by unfold smp; rw [if_neg h1, if_neg h2, if_neg n1]
          have hb := qBetween_ok (low.den + high.den) low high n2 n3 (Nat.le_refl _) hl hh
          rw [e]
          simp [n1']
          refine callS hb (by simp) ?_
          simp

/-- the document's fraction that was not set -/
def qnil : SV := .agg [.val (.bool false), .ro [], .val (.bool false), .ro []]
@[simp] theorem qnil_csz : qnil.csz = 4 := rfl
@[simp] theorem qnil_isTup : qnil.isTup = false := rfl
@[simp] theorem qnil_isAgg : qnil.isAgg = true := rfl
@[simp] theorem qnil_one : qnil.one = false := rfl
@[simp] theorem qnil_pure : qnil.pure = true := rfl
@[simp] theorem qnil_lt (n : Nat) : qnil.lt n = true := rfl
@[simp] theorem qnil_uses (k : Nat) : qnil.uses k = false := rfl
@[simp] theorem qnil_ks : qnil.ks = [] := rfl
def zq (r : Rat × Bool) : SV := if r.2 = true then qsv r.1 else qnil
set_option maxRecDepth 10000 in
theorem pSimplest_ok (low high : Rat) (hl : qw 1000000000 low) (hh : qw 1000000000 high) : PureF Tryd.prog 68 [qsv low, qsv high] (.tup [zq (smp low high), .val (.bool (smp low high).2)]) := by
  refine pure_enter Tryd.func68 rfl (by simp) (fun C hC => ?_)
  have kl := qok_of hl (by omega)
  have kh := qok_of hh (by omega)
  simp
  refine callS (pCmp_ok low high kl kh) (by simp) ?_
  by_cases h1 : high < low
  · have h1' : ¬ low < high := by grind
    have e : smp low high = (0, false) := by unfold smp; rw [if_pos h1]
    simp [h1, h1', e, zq, qnil]
  · have hle : ¬ 0 < (if low < high then (-1 : Int) else if high < low then 1 else 0) := by rw [if_neg h1]; split <;> omega
    simp [hle]
    refine callS (pSign_ok low) (by simp) ?_
    simp
    refine callS (pSign_ok high) (by simp) ?_
    by_cases h2 : low ≤ 0 ∧ 0 ≤ high
    · have e : smp low high = (0, true) := by unfold smp; rw [if_neg h1, if_pos h2]
      have z : PureF Tryd.prog 100 [.val (.int .i64 0)] (qsv 0) := pInt_ok 0 (by omega) (by omega)
      simp [num_nonpos.2 h2.1, h2.2]
      refine callS z (by simp) ?_
      simp [e, zq]
    · rcases smp_pos h1 h2 with ⟨n1, n2, n3⟩ | ⟨n1, n2, n3⟩
      · have e : smp low high = (-(btw (low.den + high.den) (-high) (-low)), true) := by unfold smp; rw [if_neg h1, if_neg h2, if_pos n1]
        have hb := pBetween_ok (-high) (-low) n2 n3 (qw_neg hh) (qw_neg hl)
        have eb : btw ((-high).den + (-low).den) (-high) (-low) = btw (low.den + high.den) (-high) (-low) := by simp [Nat.add_comm]
        rw [eb] at hb
        rw [e]
        generalize btw (low.den + high.den) (-high) (-low) = y at *
        have n1' := num_neg.2 n1
        have h4 : ¬ 0 ≤ high := Rat.not_le.2 n1
        by_cases h3 : low.num ≤ 0
        all_goals
          simp [h3, h4, n1']
          refine callS (pNeg_ok high) (by simp) ?_
          simp
          refine callS (pNeg_ok low) (by simp) ?_
          simp
          refine callS hb (by simp) ?_
          simp
          refine callS (pNeg_ok y) (by simp) ?_
          simp [zq]
      · have n1' : ¬ high.num < 0 := fun h => n1 (num_neg.1 h)
        have n3' : ¬ low.num ≤ 0 := by have := rat_num_pos.2 n2; omega
        have n4 : 0 ≤ high := Rat.not_lt.1 n1
        have e : smp low high = (btw (low.den + high.den) low high, true) := by unfold smp; rw [if_neg h1, if_neg h2, if_neg n1]
        have hb := pBetween_ok low high n2 n3 hl hh
        rw [e]
        simp [n1', n3', n4]
        refine callS hb (by simp) ?_
        simp [zq]
end Go.Proofs
