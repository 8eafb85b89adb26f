/- What (*matrix.LU).Solve computes with the columns that came later. What matrix.take leaves behind, of rows from some column on. What (*matrix.LU).Solve returns. A text of the prover's own. -/
import Derived.Test.YtnimjdcaajmfcaaGreatDoorPDz
import Derived.Test.YtnimjdcaajmfcaaGreatDoorPMv
namespace Go.Dt
open Go Go.Sv Go.Pl Go.Proofs Go.Tb Go.Ut Go.Mx
theorem renL_rsvE (σ : Nat → Nat) (y : List Rat) : renL σ (y.map rsv) = y.map rsv := renL_pure σ _ (by simp)
def etaL (e : Eta) (x : List Rat) : List Rat := (subR x e.col (gt x e.pos / gt e.col e.pos)).set e.pos (gt x e.pos / gt e.col e.pos)
@[simp] theorem etaL_len (e : Eta) (x : List Rat) : (etaL e x).length = x.length := by simp [etaL]
theorem gt_etaL {e : Eta} {x : List Rat} {i : Nat} (h : i < x.length) : gt (etaL e x) i = if e.pos = i then gt x e.pos / gt e.col e.pos else gt x i - gt e.col i * (gt x e.pos / gt e.col e.pos) := by
  unfold etaL
  rw [gt_set (by simpa using h), gt_subR h]
def xE (l : List Eta) (x : List Rat) : Nat → List Rat
  | 0 => x
  | k + 1 => etaL (gt l k) (xE l x k)
@[simp] theorem xE_len (l : List Eta) (x : List Rat) : ∀ k, (xE l x k).length = x.length
  | 0 => rfl
  | k + 1 => by simp only [xE, etaL_len]; exact xE_len l x k
end Go.Dt
namespace Go.Proofs
open Go.Sv Go Go.Tb Go.Pl Go.Ut Go.Mx Go.Dt
set_option maxRecDepth 10000 in
theorem qTakeR_ok (r o : List Rat) (y : Rat) (hl : o.length = r.length) (hn : r.length ≤ 1048576) (hr : ∀ j, j < r.length → qok (gt r j)) (ho : ∀ j, j < r.length → qok (gt o j)) (hy : qok y) (hp : ∀ j, j < r.length → qok (gt o j * y)) :
    EffC Tryz.prog 42 [.view 0 0 r.length, .ro (o.map rsv), rsv y] [some ⟨4, r.map rsv, false⟩] []
      (fun T x => T = [some ⟨4, (subR r o y).map rsv, false⟩] ∧ x = .tup []) := by
  refine eff_enter Tryz.func42 rfl (by simp) (fun C hC => ?_)
  simp
  refine callS (qSign_ok y) (by simp) ?_
  simp [Int.sign_eq_zero_iff_zero, Rat.num_eq_zero]
  refine ⟨fun z => ?_, fun z => ?_⟩
  · rw [z]
    simp [subR_zero]
    exact ⟨_, _, ⟨rfl, rfl⟩, rfl, by simp, by simp, by simp [ltM, ltL_map]⟩
  · refine CodeJ.loopL (ι := Nat) (fun i => ⟨36, [(0, .view 0 0 r.length), (1, .ro (o.map rsv)), (5, .ptr 1 0 0), (11, iv r.length), (12, iv i)], [some ⟨4, (subP r o y i).map rsv, false⟩, some ⟨4, [rsv y], false⟩]⟩)
      (fun i => i ≤ r.length) (fun i => r.length - i) 0 (by simp) ?_ ?_
    · simp [leS, hC, subP_zero]
    · rintro i hi
      by_cases hlt : i < r.length
      · have q1 := lget_r (l := subP r o y i) (i := i) (by simpa using hlt)
        have q2 := lget_r (l := o) (i := i) (by omega)
        rw [gt_subP hlt, if_neg (by omega)] at q1
        simp (disch := omega) [hlt, q2, hl]
        repeat (refine And.intro (by omega) ?_)
        refine callS (qSign_ok _) (by simp) ?_
        simp (disch := omega) [w64, Int.sign_eq_zero_iff_zero, Rat.num_eq_zero]
        repeat (refine And.intro (by omega) ?_)
        refine ⟨fun z => ?_, fun z => ?_⟩
        · refine CodeJ.draw (.qs [0, 1, 2, 3, 4, 5, 6, 7, 8, 9, 10] <| .l 11 [] <| .l 12 [] <| .qs [13] <| .l 14 [0] <| .nil) (by kernel_rfl) (by kernel_rfl) (by simp) ?_
          simp (disch := omega) [hlt, q1, q2, hl]
          repeat (refine And.intro (by omega) ?_)
          refine callS (qMul_ok _ _ (ho i hlt) hy) (by simp) ?_
          simp (disch := omega) [hlt, q1, q2, hl]
          repeat (refine And.intro (by omega) ?_)
          refine callS (qSub_ok _ _ (hr i hlt) (hp i hlt)) (by simp) ?_
          simp (disch := omega) [hlt, q1, q2, hl, w64]
          repeat (refine And.intro (by omega) ?_)
          have e : lset ((subP r o y i).map rsv) i (rsv (gt r i - gt o i * y)) = (subP r o y (i + 1)).map rsv := by rw [lset_eq, ← List.map_set, subP_set hlt]
          exact ⟨i + 1, by omega, by omega, Le.syn (by simp (disch := omega) [leS, hC, w64, e])⟩
        · exact ⟨i + 1, by omega, by omega, Le.syn (by simp (disch := omega) [leS, hC, w64, subP_skip hlt z])⟩
      · obtain rfl : i = r.length := by omega
        simp [subP_end]
        exact ⟨_, _, ⟨rfl, rfl⟩, rfl, by simp, by simp, by simp [ltM, ltL_map]⟩
set_option maxRecDepth 10000 in
theorem solveC {n : Nat} {f : Lu} (h : LuW n f) (x : List Rat) (hx : x.length = n) (wx : ∀ k, k ≤ f.later.length → Wd 20000000 (xE f.later x k)) {C : Ctx} (hC : C.fx = []) {Φ : SV → Prop} (hΦ : Φ (.tup [.ro ((xE f.later x f.later.length).map rsv), .val .nilIface])) :
    CodeJ Tryz.prog C (dropC 6 luSolveBody) (fwSt f n x) (retQ Tryz.prog [.tmp 4, .tmp 5] Φ) := by
  have n6 := h.n6
  have ll := h.l
  simp only [luSolveBody, Tryz.f59, Option.getD_some, dropC_succ, dropC_zero, fwSt]
  refine CodeJ.go ?_
  simp
  refine CodeJ.loopC (ι := Nat) (fun k => ⟨164, [(7, .view 0 0 n), (131, .ro (f.later.map etaV)), (132, iv f.later.length), (133, iv k)], [some ⟨4, (xE f.later x k).map rsv, false⟩]⟩)
    (fun k => k ≤ f.later.length) (fun k => f.later.length - k) 0 (by simp) ?_ ?_
  · simp [leS, hC, xE]
  · rintro k hk
    have xl : (xE f.later x k).length = n := by rw [xE_len, hx]
    by_cases hkl : k < f.later.length
    · obtain ⟨h1, h2, h3⟩ := h.e k hkl
      have le := lget_etaV hkl
      have wk := wx k hk
      have l1 := lget_r (l := xE f.later x k) (i := (gt f.later k).pos) (by omega)
      have l2 := lget_r (l := (gt f.later k).col) (i := (gt f.later k).pos) (by omega)
      have q1 := wk (gt f.later k).pos (by omega)
      have q2 := h3 (gt f.later k).pos (by omega)
      have q3 := qw_div q1 q2 (by omega)
      have gT := qTakeR_ok (xE f.later x k) (gt f.later k).col (gt (xE f.later x k) (gt f.later k).pos / gt (gt f.later k).col (gt f.later k).pos) (by omega) (by omega) (fun j hj => qok_of (wk j hj) (by omega)) (fun j hj => qok_of (h3 j (by omega)) (by omega)) (qok_of q3 (by omega)) (fun j hj => qok_of (qw_mul (h3 j (by omega)) q3 (by omega)) (by omega))
      rw [xl] at gT
      have e2 : lset ((subR (xE f.later x k) (gt f.later k).col (gt (xE f.later x k) (gt f.later k).pos / gt (gt f.later k).col (gt f.later k).pos)).map rsv) (gt f.later k).pos (rsv (gt (xE f.later x k) (gt f.later k).pos / gt (gt f.later k).col (gt f.later k).pos)) = (xE f.later x (k + 1)).map rsv := by
        rw [lset_eq, ← List.map_set]; rfl
      have l3 := lget_r (l := subR (xE f.later x k) (gt f.later k).col (gt (xE f.later x k) (gt f.later k).pos / gt (gt f.later k).col (gt f.later k).pos)) (i := (gt f.later k).pos) (by simp; omega)
      refine CodeJ.go ?_
      simp (disch := omega) [hkl, le]
      repeat (refine And.intro (by omega) ?_)
      refine CodeJ.drawZ (.d 15 <| .qs [0, 1, 2, 3, 4, 5, 6, 7, 8, 9, 10] <| .p 11 <| .qs [12, 13, 14] <| .b ( .l 16 [2] <| .qs [17] <| .nil )) (by kernel_rfl) (by kernel_rfl) (by simp) ?_
      simp (disch := omega) [h1, h2, l1, l2, xl]
      repeat (refine And.intro (by omega) ?_)
      refine callV (qQuo_ok _ _ (qok_of q1 (by omega)) (qok_of q2 (by omega))) (by simp) ?_
      simp
      refine callT gT [0] (by simp) (by simp) (by simp) (by simp) (by simp) ?_
      rintro T y ⟨rfl, rfl⟩
      simp (disch := omega) [h1, h2, l3, xl, e2, w64, renL_rsvE, -List.map_set]
      repeat (refine And.intro (by omega) ?_)
      exact ⟨k + 1, by omega, by omega, Le.syn (by simp (disch := omega) [leS, hC, w64])⟩
    · obtain rfl : k = f.later.length := by omega
      refine CodeJ.frz 0 rfl (by simp) ?_
      refine CodeJ.go ?_
      have tk : ((xE f.later x f.later.length).map rsv).take n = (xE f.later x f.later.length).map rsv := List.take_of_length_le (by simp; omega)
      simp [frzS, xl, tk]
      exact ⟨_, Sub_self _ _ (by simp), hΦ⟩
end Go.Proofs
namespace Go.Dt
open Go Go.Sv Go.Pl Go.Proofs Go.Tb Go.Ut Go.Mx
/-- the elements from o on, the first i of them done -/
def subO (r q : List Rat) (y : Rat) (o i : Nat) : List Rat := (List.range r.length).map fun j => if o ≤ j ∧ j < o + i then gt r j - gt q j * y else gt r j
@[simp] theorem subO_len (r q : List Rat) (y : Rat) (o i : Nat) : (subO r q y o i).length = r.length := by simp [subO]
theorem gt_subO {r q : List Rat} {y : Rat} {o i j : Nat} (h : j < r.length) : gt (subO r q y o i) j = if o ≤ j ∧ j < o + i then gt r j - gt q j * y else gt r j := by unfold subO; rw [gt_range _ h]
theorem subO_zero (r q : List Rat) (y : Rat) (o : Nat) : subO r q y o 0 = r := ext_gt' (by simp) fun j h => by rw [gt_subO (by simpa using h), if_neg (fun q => by omega)]
theorem subO_y0 (r q : List Rat) (o i : Nat) : subO r q 0 o i = r := ext_gt' (by simp) fun j h => by
  rw [gt_subO (by simpa using h)]
  split <;> grind
theorem subO_set {r q : List Rat} {y : Rat} {o i : Nat} (h : o + i < r.length) : (subO r q y o i).set (o + i) (gt r (o + i) - gt q (o + i) * y) = subO r q y o (i + 1) := ext_gt' (by simp) fun j hj => by
  have hj : j < r.length := by simpa using hj
  rw [gt_set (by simpa using hj), gt_subO hj, gt_subO hj]
  by_cases e : o + i = j
  · subst e; rw [if_pos rfl, if_pos ⟨by omega, by omega⟩]
  · rw [if_neg e]
    by_cases l : o ≤ j ∧ j < o + i
    · rw [if_pos l, if_pos ⟨l.1, by omega⟩]
    · rw [if_neg l, if_neg (fun w => l ⟨w.1, by omega⟩)]
theorem subO_skip {r q : List Rat} {y : Rat} {o i : Nat} (h : o + i < r.length) (hz : gt q (o + i) = 0) : subO r q y o (i + 1) = subO r q y o i := by
  rw [← subO_set h, hz]
  refine ext_gt' (by simp) fun j hj => ?_
  have hj : j < r.length := by simpa using hj
  rw [gt_set (by simpa using hj), gt_subO hj]
  by_cases e : o + i = j
  · subst e; rw [if_pos rfl, if_neg (fun w => by omega)]; grind
  · rw [if_neg e]
end Go.Dt
namespace Go.Proofs
open Go.Sv Go Go.Tb Go.Pl Go.Ut Go.Mx Go.Dt
set_option maxRecDepth 10000 in
theorem qTakeO_ok (r q : List Rat) (y : Rat) (o m : Nat) (hl : r.length = o + m) (hq : q.length = o + m) (hn : o + m ≤ 1048576) (hr : ∀ j, j < r.length → qok (gt r j)) (ho : ∀ j, j < r.length → qok (gt q j)) (hy : qok y) (hp : ∀ j, j < r.length → qok (gt q j * y)) :
    EffC Tryz.prog 42 [.view 0 o m, .view 1 o m, rsv y] [some ⟨4, r.map rsv, false⟩, some ⟨4, q.map rsv, false⟩] []
      (fun T x => T = [some ⟨4, (subO r q y o m).map rsv, false⟩, some ⟨4, q.map rsv, false⟩] ∧ x = .tup []) := by
  refine eff_enter Tryz.func42 rfl (by simp) (fun C hC => ?_)
  simp
  refine callS (qSign_ok y) (by simp) ?_
  simp [Int.sign_eq_zero_iff_zero, Rat.num_eq_zero]
  refine ⟨fun z => ?_, fun z => ?_⟩
  · rw [z]
    simp [subO_y0]
    exact ⟨_, _, ⟨rfl, rfl⟩, rfl, by simp, by simp, by simp [ltM, ltL_map]⟩
  · refine CodeJ.loopL (ι := Nat) (fun i => ⟨36, [(0, .view 0 o m), (1, .view 1 o m), (5, .ptr 2 0 0), (11, iv m), (12, iv i)], [some ⟨4, (subO r q y o i).map rsv, false⟩, some ⟨4, q.map rsv, false⟩, some ⟨4, [rsv y], false⟩]⟩)
      (fun i => i ≤ m) (fun i => m - i) 0 (by simp) ?_ ?_
    · simp [leS, hC, subO_zero]
    · rintro i hi
      by_cases hlt : i < m
      · have q1 := lget_r (l := subO r q y o i) (i := o + i) (by simp; omega)
        have q2 := lget_r (l := q) (i := o + i) (by omega)
        rw [gt_subO (by omega), if_neg (fun w => by omega)] at q1
        simp (disch := omega) [hlt, q2, hq]
        repeat (refine And.intro (by omega) ?_)
        refine callS (qSign_ok _) (by simp) ?_
        simp (disch := omega) [w64, Int.sign_eq_zero_iff_zero, Rat.num_eq_zero]
        repeat (refine And.intro (by omega) ?_)
        refine ⟨fun z => ?_, fun z => ?_⟩
        · refine CodeJ.draw (.qs [0, 1, 2, 3, 4, 5, 6, 7, 8, 9, 10] <| .l 11 [] <| .l 12 [] <| .qs [13] <| .l 14 [0] <| .nil) (by kernel_rfl) (by kernel_rfl) (by simp) ?_
          simp (disch := omega) [hlt, q1, q2, hl, hq]
          repeat (refine And.intro (by omega) ?_)
          refine callS (qMul_ok _ _ (ho (o + i) (by omega)) hy) (by simp) ?_
          simp (disch := omega) [hlt, q1, q2, hl, hq]
          repeat (refine And.intro (by omega) ?_)
          refine callS (qSub_ok _ _ (hr (o + i) (by omega)) (hp (o + i) (by omega))) (by simp) ?_
          have e : lset ((subO r q y o i).map rsv) (o + i) (rsv (gt r (o + i) - gt q (o + i) * y)) = (subO r q y o (i + 1)).map rsv := by rw [lset_eq, ← List.map_set, subO_set (by omega)]
          simp (disch := omega) [hlt, q1, q2, hl, hq, w64, e]
          repeat (refine And.intro (by omega) ?_)
          exact ⟨i + 1, by omega, by omega, Le.syn (by simp (disch := omega) [leS, hC, w64])⟩
        · exact ⟨i + 1, by omega, by omega, Le.syn (by simp (disch := omega) [leS, hC, w64, subO_skip (show o + i < r.length by omega) z])⟩
      · obtain rfl : i = m := by omega
        simp
        exact ⟨_, _, ⟨rfl, rfl⟩, rfl, by simp, by simp, by simp [ltM, ltL_map]⟩
end Go.Proofs
namespace Go.Dt
open Go Go.Sv Go.Pl Go.Proofs Go.Tb Go.Ut Go.Mx
def etaF (e : Eta) : Nat × (Nat → Rat) := (e.pos, gt e.col)
/-- the table when k columns have come later -/
def tabK (n : Nat) (A0 : Mat) (f : Lu) (k : Nat) : Mat := etas n A0 ((f.later.take k).map etaF)
theorem tabK_succ {n : Nat} {A0 : Mat} {f : Lu} {k : Nat} (h : k < f.later.length) : tabK n A0 f (k + 1) = etaM n (tabK n A0 f k) (gt f.later k).pos (gt (gt f.later k).col) := by
  unfold tabK
  rw [take_gt h, List.map_append]
  exact etas_app n (etaF (gt f.later k)) _ A0
/-- f is a table taken apart, and A is that table -/
structure LuOK (n : Nat) (A : Mat) (f : Lu) (A0 : Mat) : Prop where
  w : LuW n f
  i : LuI n A0 n (ofL f.both) (gt f.ord) f.odd
  z : ∀ k, k < f.later.length → gt (gt f.later k).col (gt f.later k).pos ≠ 0
  s : Same n A (tabK n A0 f f.later.length)
  q : ∀ k, k ≤ f.later.length → ∀ r c, r < n → c < n → Proofs.qw 4403 (tabK n A0 f k r c)
theorem LuOK.d0 {n : Nat} {A A0 : Mat} {f : Lu} (h : LuOK n A f A0) : det n A0 ≠ 0 := by
  rw [h.i.detE]
  have := prodD_ne n h.i.piv
  unfold sgn
  split
  · rw [show (-1 : Rat) * prodD (ofL f.both) n = -prodD (ofL f.both) n by grind]
    intro e
    exact this (by grind)
  · rw [Rat.one_mul]; exact this
theorem LuOK.dk {n : Nat} {A A0 : Mat} {f : Lu} (h : LuOK n A f A0) : ∀ k, k ≤ f.later.length → det n (tabK n A0 f k) = etaP f.later k * det n A0 ∧ etaP f.later k ≠ 0
  | 0, _ => ⟨by simp only [etaP]; rw [Rat.one_mul]; rfl, by simp only [etaP]; decide⟩
  | k + 1, hk => by
    obtain ⟨a, b⟩ := h.dk k (by omega)
    obtain ⟨h1, _, _⟩ := h.w.e k (by omega)
    have hz := h.z k (by omega)
    rw [tabK_succ (by omega), eta_det h1, a]
    refine ⟨by simp only [etaP]; grind, ?_⟩
    simp only [etaP]
    intro e
    rcases Rat.mul_eq_zero.1 e with q | q
    · exact b q
    · exact hz q
theorem LuOK.dne {n : Nat} {A A0 : Mat} {f : Lu} (h : LuOK n A f A0) {k : Nat} (hk : k ≤ f.later.length) : det n (tabK n A0 f k) ≠ 0 := by
  obtain ⟨a, b⟩ := h.dk k hk
  rw [a]
  intro e
  rcases Rat.mul_eq_zero.1 e with q | q
  · exact b q
  · exact h.d0 q
/-- its determinant -/
theorem LuOK.det {n : Nat} {A A0 : Mat} {f : Lu} (h : LuOK n A f A0) : Dt.det n A = sgn f.odd * prodD (ofL f.both) n * etaP f.later f.later.length := by
  rw [det_congr h.s, (h.dk _ (Nat.le_refl _)).1, h.i.detE]; grind
/-- numbers that a table solves are not great -/
theorem cramer_wd {n : Nat} {A : Mat} {b x : Nat → Rat} (n6 : n ≤ 6) (hA : ∀ r c, r < n → c < n → Proofs.qw 4403 (A r c)) (hb : ∀ r, r < n → Proofs.qw 4403 (b r)) (h : ∀ r, r < n → mulV n A x r = b r) (hd : Dt.det n A ≠ 0) {p : Nat} (hp : p < n) : Proofs.qw 17232362 (x p) := by
  rw [cramer_eq h hd hp]
  have w1 := qw_mono (qw_det (by omega) fun r c hr hc => hA r c hr hc) (dw_six n6)
  have w2 := qw_mono (qw_det (W := 4403) (n := n) (A := setC A p b) (by omega) fun r c hr hc => by
    unfold setC; split
    · exact hb r hr
    · exact hA r c hr hc) (dw_six n6)
  exact qw_mono (qw_div w2 w1 (by omega)) (by omega)
theorem LuOK.xk {n : Nat} {A A0 : Mat} {f : Lu} (h : LuOK n A f A0) {b : Nat → Rat} {x : List Rat} (hx : x.length = n) (h0 : ∀ r, r < n → mulV n A0 (gt x) r = b r) : ∀ k, k ≤ f.later.length → ∀ r, r < n → mulV n (tabK n A0 f k) (gt (xE f.later x k)) r = b r
  | 0, _, r, hr => h0 r hr
  | k + 1, hk, r, hr => by
    have ih := h.xk hx h0 k (by omega) r hr
    obtain ⟨h1, h2, h3⟩ := h.w.e k (by omega)
    rw [tabK_succ (by omega), ← ih]
    have xl : (xE f.later x k).length = n := by rw [xE_len, hx]
    refine eta_solve h1 (h.z k (by omega)) ?_ (fun i hi hne => ?_) r
    · simp only [xE]
      rw [gt_etaL (by omega), if_pos rfl]
    · simp only [xE]
      rw [gt_etaL (by omega), if_neg (fun q => hne q.symm)]
theorem mulV_congr {n : Nat} {A : Mat} {x y : Nat → Rat} (h : ∀ c, c < n → x c = y c) (r : Nat) : mulV n A x r = mulV n A y r := sumR_congr n fun c hc => by rw [h c hc]
end Go.Dt
namespace Go.Proofs
open Go.Sv Go Go.Tb Go.Pl Go.Ut Go.Mx Go.Dt
theorem qSolve_ok {n : Nat} {A A0 : Mat} {f : Lu} (h : LuOK n A f A0) (b : List Rat) (hb : b.length = n) (wb : Wd 4403 b) :
    PureC Tryz.prog 59 [.rop (luV f) 0, .ro (b.map rsv)] (fun y => ∃ x : List Rat, y = .tup [.ro (x.map rsv), .val .nilIface] ∧ x.length = n ∧ Wd 17232362 x ∧ ∀ r, r < n → mulV n A (gt x) r = gt b r) := by
  have hw := h.w
  have ho := h.i.lt
  have n6 := hw.n6
  have s0 := h.i.solves (gt b)
  have q0 := h.q 0 (by omega)
  have hbw : ∀ r, r < n → qw 4403 (gt b r) := fun r hr => wb r (by omega)
  have hX : ∀ c, c < n → qw 20000000 (solX f b n c) := fun c hc => qw_mono (cramer_wd n6 q0 hbw (fun r hr => s0 r hr) h.d0 hc) (by omega)
  have gx : ∀ c, c < n → gt (bwL (ofL f.both) (fwd (ofL f.both) (bo f b)) n n) c = solX f b n c := fun c hc => by
    rw [gt_bwL hc, if_pos (by omega)]; rfl
  have h0 : ∀ r, r < n → mulV n A0 (gt (bwL (ofL f.both) (fwd (ofL f.both) (bo f b)) n n)) r = gt b r := fun r hr => by
    rw [mulV_congr gx]; exact s0 r hr
  have xk := h.xk (b := gt b) (x := bwL (ofL f.both) (fwd (ofL f.both) (bo f b)) n n) (by simp) h0
  have wx : ∀ k, k ≤ f.later.length → Wd 17232362 (xE f.later (bwL (ofL f.both) (fwd (ofL f.both) (bo f b)) n n) k) := fun k hk i hi => cramer_wd n6 (h.q k hk) hbw (xk k hk) (h.dne hk) (by simpa using hi)
  refine pure_enterJ Tryz.func59 rfl (by simp) (fun C hC => ?_)
  show CodeJ _ _ luSolveBody _ (retQ _ [.tmp 4, .tmp 5] _)
  refine solveA hw ho b hb wb hC (solveB hw ho b hb wb hX hC (solveC hw _ (by simp) (fun k hk i hi => qw_mono (wx k hk i hi) (by omega)) hC ?_))
  exact ⟨_, rfl, by simp, wx _ (Nat.le_refl _), fun r hr => by rw [h.s.mulV _ hr]; exact xk _ (Nat.le_refl _) r hr⟩
theorem qSolveE_ok (f : Lu) (b : List Rat) (hb : b.length ≠ f.ord.length) : PureF Tryz.prog 59 [.rop (luV f) 0, .ro (b.map rsv)] (.tup [.ro [], erV 4]) := by
  refine pure_enter Tryz.func59 rfl (by simp) (fun C hC => ?_)
  simp
  refine callS (qSize_ok f) (by simp) ?_
  have hb' : ¬ ((b.length : Int) = f.ord.length) := by omega
  simp [hb, hb', erV_4]
  refine CodeJ.draw (.qs [0, 1, 2] <| .nil) (by kernel_rfl) (by kernel_rfl) (by simp) ?_
  simp
theorem qLeftE_ok (f : Lu) (b : List Rat) (hb : b.length ≠ f.ord.length) : PureF Tryz.prog 64 [.rop (luV f) 0, .ro (b.map rsv)] (.tup [.ro [], erV 4]) := by
  refine pure_enter Tryz.func64 rfl (by simp) (fun C hC => ?_)
  simp
  refine callS (qSize_ok f) (by simp) ?_
  have hb' : ¬ ((b.length : Int) = f.ord.length) := by omega
  simp [hb, hb', erV_4]
  refine CodeJ.draw (.qs [0, 1, 2] <| .nil) (by kernel_rfl) (by kernel_rfl) (by simp) ?_
  simp
theorem qDetA_ok {n : Nat} {A A0 : Mat} {f : Lu} (h : LuOK n A f A0) : PureF Tryz.prog 16 [.rop (luV f) 0] (rsv (det n A)) := by
  rw [h.det]; exact qDet_ok h.w
end Go.Proofs

