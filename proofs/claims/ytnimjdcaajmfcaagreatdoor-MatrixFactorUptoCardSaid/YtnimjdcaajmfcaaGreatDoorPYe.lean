/- What a table that is taken apart solves from the left, as it is computed; the sizes of all numbers on the way. A text of the prover's own; it names no program. What (*matrix.LU).Left computes behind the columns that came later. What (*matrix.LU).Left returns. What (*matrix.LU).Replace returns. A text of the prover's own. -/
import Derived.Test.YtnimjdcaajmfcaaGreatDoorPEg
import Derived.Test.YtnimjdcaajmfcaaGreatDoorPVr
namespace Go.Dt
open Go Go.Sv Go.Pl Go.Proofs Go.Tb Go.Ut Go.Mx
def etaS (e : Eta) (z : List Rat) (i : Nat) : Rat := gt z e.pos - sumR (fun j => if j = e.pos then 0 else gt z j * gt e.col j) i
def etaB (e : Eta) (z : List Rat) : List Rat := z.set e.pos (etaS e z z.length / gt e.col e.pos)
@[simp] theorem etaB_len (e : Eta) (z : List Rat) : (etaB e z).length = z.length := by simp [etaB]
theorem gt_etaB {e : Eta} {z : List Rat} {i : Nat} (h : i < z.length) : gt (etaB e z) i = if e.pos = i then etaS e z z.length / gt e.col e.pos else gt z i := by
  unfold etaB
  rw [gt_set h]
theorem etaS_zero (e : Eta) (z : List Rat) : etaS e z 0 = gt z e.pos := by unfold etaS; simp only [sumR]; grind
theorem etaS_same {e : Eta} {z : List Rat} {i : Nat} (h : i = e.pos) : etaS e z (i + 1) = etaS e z i := by unfold etaS; simp only [sumR]; rw [if_pos h]; grind
theorem etaS_succ {e : Eta} {z : List Rat} {i : Nat} (h : i ≠ e.pos) : etaS e z (i + 1) = etaS e z i - gt z i * gt e.col i := by unfold etaS; simp only [sumR]; rw [if_neg h]; grind
/-- behind the last d columns that came later -/
def zL (l : List Eta) (c : List Rat) : Nat → List Rat
  | 0 => c
  | d + 1 => etaB (gt l (l.length - 1 - d)) (zL l c d)
@[simp] theorem zL_len (l : List Eta) (c : List Rat) : ∀ d, (zL l c d).length = c.length
  | 0 => rfl
  | d + 1 => by simp only [zL, etaB_len]; exact zL_len l c d
def wE (f : Lu) (c : List Rat) : Nat → Rat := lfw (ofL f.both) (gt (zL f.later c f.later.length))
def zE (f : Lu) (c : List Rat) (n : Nat) : Nat → Rat := lbw (ofL f.both) (wE f c) n
/-- the first i stand where they belong -/
def yL (f : Lu) (c : List Rat) (n : Nat) : Nat → List Rat
  | 0 => List.replicate n 0
  | i + 1 => (yL f c n i).set (gt f.ord i) (zE f c n i)
@[simp] theorem yL_len (f : Lu) (c : List Rat) (n : Nat) : ∀ i, (yL f c n i).length = n
  | 0 => by simp [yL]
  | i + 1 => by simp only [yL, List.length_set]; exact yL_len f c n i
theorem gt_yL {n : Nat} {A A0 : Mat} {f : Lu} (h : LuOK n A f A0) (c : List Rat) : ∀ k, k ≤ n → ∀ i, i < k → gt (yL f c n k) (gt f.ord i) = zE f c n i
  | 0, _, i, hi => by omega
  | k + 1, hk, i, hi => by
    have b := h.i.lt i (by omega)
    simp only [yL]
    rw [gt_set (by simpa using b)]
    split
    · rename_i e
      rw [h.i.inj k i (by omega) (by omega) e]
    · rename_i e
      exact gt_yL h c k (by omega) i (by
        by_cases q : i = k
        · rw [q] at e; exact absurd rfl e
        · omega)
theorem LuOK.yk {n : Nat} {A A0 : Mat} {f : Lu} (h : LuOK n A f A0) {c : List Rat} (hc : c.length = n) {y : Nat → Rat} (h0 : ∀ q, q < n → mulL n A0 y q = gt (zL f.later c f.later.length) q) : ∀ k, k ≤ f.later.length → ∀ q, q < n → mulL n (tabK n A0 f k) y q = gt (zL f.later c (f.later.length - k)) q
  | 0, _, q, hq => by rw [show f.later.length - 0 = f.later.length by omega]; exact h0 q hq
  | k + 1, hk, q, hq => by
    have ih := h.yk hc h0 k (by omega)
    obtain ⟨h1, h2, h3⟩ := h.w.e k (by omega)
    obtain ⟨d, hd⟩ : ∃ d, f.later.length - (k + 1) = d := ⟨_, rfl⟩
    have e1 : f.later.length - k = d + 1 := by omega
    have e2 : f.later.length - 1 - d = k := by omega
    rw [e1] at ih
    simp only [zL, e2] at ih
    rw [tabK_succ (by omega), hd]
    have zl : (zL f.later c d).length = n := by rw [zL_len, hc]
    refine eta_left (z := gt (zL f.later c d)) (z' := gt (etaB (gt f.later k) (zL f.later c d))) h1 (h.z k (by omega)) ?_ (fun i hi hne => ?_) ih q hq
    · rw [gt_etaB (by omega), if_pos rfl]
      unfold etaS; rw [zl]
    · rw [gt_etaB (by omega), if_neg (fun q => hne q.symm)]
/-- numbers that a table solves from the left are not great -/
theorem cramerL_wd {n : Nat} {A : Mat} {c y : Nat → Rat} (n6 : n ≤ 6) (hA : ∀ r c, r < n → c < n → Proofs.qw 4403 (A r c)) (hb : ∀ r, r < n → Proofs.qw 4403 (c r)) (h : ∀ r, r < n → mulL n A y r = c r) (hd : Dt.det n A ≠ 0) {p : Nat} (hp : p < n) : Proofs.qw 17232362 (y p) := by
  rw [cramerL_eq h hd hp]
  have w1 := qw_mono (qw_det (by omega) fun r c hr hc => hA r c hr hc) (dw_six n6)
  have w2 := qw_mono (qw_det (W := 4403) (n := n) (A := setR A p c) (by omega) fun r q hr hq => by
    unfold setR; split
    · exact hb q hq
    · exact hA r q hr hq) (dw_six n6)
  exact qw_mono (qw_div w2 w1 (by omega)) (by omega)
theorem mulL_wd {n : Nat} {A : Mat} {y : Nat → Rat} (hA : ∀ r c, r < n → c < n → Proofs.qw 4403 (A r c)) (hy : ∀ r, r < n → Proofs.qw 17232362 (y r)) {c : Nat} (hc : c < n) : ∀ k, k ≤ n → Proofs.qw (1 + 17236767 * k) (sumR (fun r => y r * A r c) k)
  | 0, _ => ⟨fw_zero _, fw_one (Nat.le_refl 1)⟩
  | k + 1, hk => qw_mono (qw_add (mulL_wd hA hy hc k (by omega)) (qw_mul (hy k (by omega)) (hA k c (by omega) hc) (by omega))) (by omega)
theorem tl_wd {n : Nat} {M : Mat} {z : Nat → Rat} (hM : ∀ i j, i < n → j < n → Proofs.qw 34375000 (M i j)) (hz : ∀ i, i < n → Proofs.qw 17232362 (z i)) {c : Nat} (hc : c < n) : ∀ k, k ≤ n → Proofs.qw (1 + 51607364 * k) (tl (fun i => z i * M i c) c k)
  | 0, _ => ⟨fw_zero _, fw_one (Nat.le_refl 1)⟩
  | k + 1, hk => by
    have ih := tl_wd hM hz hc k (by omega)
    unfold tl at ih ⊢
    simp only [sumR]
    split
    · exact qw_mono (qw_add ih (qw_mul (hz k (by omega)) (hM k c (by omega) hc) (by omega))) (by omega)
    · rw [Rat.add_zero]; exact qw_mono ih (by omega)
structure LeftW (n : Nat) (f : Lu) (c : List Rat) : Prop where
  z : ∀ d, d ≤ f.later.length → Wd 110000000 (zL f.later c d)
  w : ∀ j, j < n → Proofs.qw 400000000 (wE f c j)
  y : ∀ j, j < n → Proofs.qw 17232362 (zE f c n j)
theorem LuOK.left {n : Nat} {A A0 : Mat} {f : Lu} (h : LuOK n A f A0) {c : List Rat} (hc : c.length = n) (wc : Wd 4403 c) : LeftW n f c ∧ Wd 17232362 (yL f c n n) ∧ ∀ q, q < n → mulL n A (gt (yL f c n n)) q = gt c q := by
  have n6 := h.w.n6
  have h0 : ∀ q, q < n → mulL n A0 (gt (yL f c n n)) q = gt (zL f.later c f.later.length) q := fun q hq => h.i.lefts (gt (zL f.later c f.later.length)) (gt (yL f c n n)) (fun i hi => gt_yL h c n (Nat.le_refl _) i hi) q hq
  have yk := h.yk hc h0
  have e : ∀ q, q < n → mulL n A (gt (yL f c n n)) q = gt c q := fun q hq => by
    rw [h.s.mulL _ hq, yk _ (Nat.le_refl _) q hq, Nat.sub_self]; rfl
  have dn : Dt.det n A ≠ 0 := by rw [det_congr h.s]; exact h.dne (Nat.le_refl _)
  have qA : ∀ r c, r < n → c < n → Proofs.qw 4403 (A r c) := fun r c hr hc => by rw [h.s r c hr hc]; exact h.q _ (Nat.le_refl _) r c hr hc
  have wy : ∀ r, r < n → Proofs.qw 17232362 (gt (yL f c n n) r) := fun r hr => cramerL_wd n6 qA (fun r hr => wc r (by omega)) e dn hr
  have wz : ∀ j, j < n → Proofs.qw 17232362 (zE f c n j) := fun j hj => by
    rw [← gt_yL h c n (Nat.le_refl _) j hj]; exact wy _ (h.i.lt j hj)
  have hM : ∀ i j, i < n → j < n → Proofs.qw 34375000 (ofL f.both i j) := fun i j hi hj => h.w.b.q i j hi hj
  refine ⟨⟨fun d hd i hi => ?_, fun j hj => ?_, wz⟩, fun i hi => wy i (by simpa using hi), e⟩
  · have hi : i < n := by rw [zL_len, hc] at hi; exact hi
    have := yk (f.later.length - d) (by omega) i hi
    rw [show f.later.length - (f.later.length - d) = d by omega] at this
    rw [← this]
    exact qw_mono (mulL_wd (fun r c hr hc => h.q _ (by omega) r c hr hc) wy hi n (Nat.le_refl _)) (by omega)
  · have e := lbw_eq (ofL f.both) (wE f c) hj
    have e2 : wE f c j = zE f c n j + tl (fun i => zE f c n i * ofL f.both i j) j n := by
      unfold zE; rw [e]; grind
    rw [e2]
    exact qw_mono (qw_add (wz j hj) (tl_wd hM wz hj n (Nat.le_refl _))) (by omega)
end Go.Dt
namespace Go.Proofs
open Go.Sv Go Go.Tb Go.Pl Go.Ut Go.Mx Go.Dt
noncomputable def luLeftBody : Code := Tryz.f64.body.getD .skip
def lfSt (f : Lu) (n : Nat) (z : List Rat) : St := ⟨203, [(0, .rop (luV f) 0), (6, iv n), (7, .view 0 0 n)], [some ⟨4, z.map rsv, false⟩]⟩
theorem qw_etaS {e : Eta} {z : List Rat} (h1 : e.pos < z.length) (h2 : e.col.length = z.length) (h3 : Wd 20000000 e.col) (h4 : Wd 110000000 z) : ∀ i, i ≤ z.length → qw (110000001 + 130000001 * i) (etaS e z i)
  | 0, _ => by rw [etaS_zero]; exact qw_mono (h4 _ h1) (by omega)
  | i + 1, hi => by
    have ih := qw_etaS h1 h2 h3 h4 i (by omega)
    by_cases q : i = e.pos
    · rw [etaS_same q]; exact qw_mono ih (by omega)
    · rw [etaS_succ q]; exact qw_mono (qw_sub ih (qw_mul (h4 i (by omega)) (h3 i (by omega)) (by omega))) (by omega)
set_option maxRecDepth 10000 in
theorem leftA {n : Nat} {f : Lu} (h : LuW n f) (c : List Rat) (hc : c.length = n) (hz : ∀ d, d ≤ f.later.length → Wd 110000000 (zL f.later c d)) {C : Ctx} (hC : C.fx = []) {Φ : SV → Prop}
    (hQ : CodeJ Tryz.prog C (dropC 5 luLeftBody) (lfSt f n (zL f.later c f.later.length)) (retQ Tryz.prog [.tmp 4, .tmp 5] Φ)) :
    CodeJ Tryz.prog C luLeftBody ⟨203, argFr 0 [.rop (luV f) 0, .ro (c.map rsv)], []⟩ (retQ Tryz.prog [.tmp 4, .tmp 5] Φ) := by
  have n6 := h.n6
  have ll := h.l
  have ol := h.o
  refine CodeJ.cutAt 5 (fun st => st = lfSt f n (zL f.later c f.later.length)) ?_ (fun st e => e ▸ hQ)
  simp only [luLeftBody, Tryz.f64, Option.getD_some, takeC_succ, takeC_zero]
  simp
  refine callS (qSize_ok f) (by simp) ?_
  simp [ol, hc]
  refine ⟨by omega, ?_⟩
  refine CodeJ.loopL (ι := Nat × Nat) (fun ⟨d, k1⟩ => ⟨203, [(0, .rop (luV f) 0), (6, iv n), (7, .view 0 0 n), (8, iv ((k1 : Int) - 1))], [some ⟨4, (zL f.later c d).map rsv, false⟩]⟩)
    (fun ⟨d, k1⟩ => k1 + d = f.later.length) (fun ⟨d, k1⟩ => k1) (0, f.later.length) (by simp) ?_ ?_
  · simp (disch := omega) [leS, hC, w64, zL]
  · rintro ⟨d, k1⟩ hd
    cases k1 with
    | zero =>
      obtain rfl : d = f.later.length := by simpa using hd
      simp [leS, lfSt]
    | succ k =>
      have hkl : k < f.later.length := by have : k + 1 + d = f.later.length := hd; omega
      have hkd : f.later.length - 1 - d = k := by have : k + 1 + d = f.later.length := hd; omega
      have ei : ((k + 1 : Nat) : Int) - 1 = k := by omega
      simp only [ei]
      obtain ⟨h1, h2, h3⟩ := h.e k hkl
      have le := lget_etaV hkl
      have zl : (zL f.later c d).length = n := by rw [zL_len, hc]
      have hz1 := hz d (by have : k + 1 + d = f.later.length := hd; omega)
      have hw := qw_etaS (e := gt f.later k) (z := zL f.later c d) (by omega) (by omega) h3 hz1
      have z1 : zL f.later c (d + 1) = etaB (gt f.later k) (zL f.later c d) := by simp only [zL, hkd]
      simp (disch := omega) [hkl, le]
      repeat (refine And.intro (by omega) ?_)
      have cd : ∀ i, i < n → (((zL f.later c d).set (gt f.later k).pos (etaS (gt f.later k) (zL f.later c d) i)).length = n) := fun i _ => by simpa using zl
      refine CodeJ.loopL (ι := Nat) (fun i => ⟨203, [(0, .rop (luV f) 0), (6, iv n), (7, .view 0 0 n), (8, iv k), (9, .ptr 1 0 0), (44, iv n), (45, iv i)], [some ⟨4, ((zL f.later c d).set (gt f.later k).pos (etaS (gt f.later k) (zL f.later c d) i)).map rsv, false⟩, some ⟨2, [etaV (gt f.later k)], false⟩]⟩)
        (fun i => i ≤ n) (fun i => n - i) 0 (by simp) ?_ ?_
      · have e0 : (zL f.later c d).set (gt f.later k).pos (gt (zL f.later c d) (gt f.later k).pos) = zL f.later c d := ext_gt' (by simp) fun j hj => by
          rw [gt_set (by simpa using hj)]
          split
          · rename_i q; rw [q]
          · rfl
        simp [leS, hC, etaS_zero, e0, -List.map_set]
      · rintro i hi
        have xp : lget (((zL f.later c d).set (gt f.later k).pos (etaS (gt f.later k) (zL f.later c d) i)).map rsv) (gt f.later k).pos = rsv (etaS (gt f.later k) (zL f.later c d) i) := by
          rw [lget_r (by simp; omega), gt_set (by simp; omega), if_pos rfl]
        have q4 := hw i (by omega)
        by_cases hlt : i < n
        · by_cases q : i = (gt f.later k).pos
          · have q' : (i : Int) = (gt f.later k).pos := by omega
            simp (disch := omega) [hlt, q', h1, w64, -List.map_set]
            repeat (refine And.intro (by omega) ?_)
            exact ⟨i + 1, by omega, by omega, Le.syn (by simp (disch := omega) [leS, hC, w64, q', etaS_same q, -List.map_set])⟩
          · have q' : ¬ ((i : Int) = (gt f.later k).pos) := by omega
            have lm := lget_r (l := (gt f.later k).col) (i := i) (by omega)
            have xi : lget (((zL f.later c d).set (gt f.later k).pos (etaS (gt f.later k) (zL f.later c d) i)).map rsv) i = rsv (gt (zL f.later c d) i) := by
              rw [lget_r (by simp; omega), gt_set (by simp; omega), if_neg (fun w => q w.symm)]
            have q1 := hz1 i (by omega)
            have q2 := h3 i (by omega)
            have q5 := qw_mul q1 q2 (by omega)
            have e1 : lset (((zL f.later c d).set (gt f.later k).pos (etaS (gt f.later k) (zL f.later c d) i)).map rsv) (gt f.later k).pos (rsv (etaS (gt f.later k) (zL f.later c d) i - gt (zL f.later c d) i * gt (gt f.later k).col i)) = ((zL f.later c d).set (gt f.later k).pos (etaS (gt f.later k) (zL f.later c d) (i + 1))).map rsv := by
              rw [lset_eq, ← List.map_set, List.set_set, etaS_succ q]
            simp (disch := omega) [hlt, q', -List.map_set]
            repeat (refine And.intro (by omega) ?_)
            refine CodeJ.draw (.qs [0, 1, 2, 3, 4, 5, 6, 7, 8, 9, 10, 11, 12, 13, 14, 15, 16] <| .l 17 [] <| .l 18 [] <| .qs [19] <| .l 20 [0] <| .nil) (by kernel_rfl) (by kernel_rfl) (by simp) ?_
            simp (disch := omega) [hlt, h1, h2, lm, xi, xp, zl, -List.map_set]
            repeat (refine And.intro (by omega) ?_)
            refine callS (qMul_ok _ _ (qok_of q1 (by omega)) (qok_of q2 (by omega))) (by simp) ?_
            simp [-List.map_set]
            refine callS (qSub_ok _ _ (qok_of q4 (by omega)) (qok_of q5 (by omega))) (by simp) ?_
            simp (disch := omega) [xi, xp, e1, w64, -List.map_set]
            repeat (refine And.intro (by omega) ?_)
            exact ⟨i + 1, by omega, by omega, Le.syn (by simp (disch := omega) [leS, hC, w64, -List.map_set])⟩
        · obtain rfl : i = n := by omega
          have lm := lget_r (l := (gt f.later k).col) (i := (gt f.later k).pos) (by omega)
          have q2 := h3 (gt f.later k).pos (by omega)
          have e2 : lset (((zL f.later c d).set (gt f.later k).pos (etaS (gt f.later k) (zL f.later c d) i)).map rsv) (gt f.later k).pos (rsv (etaS (gt f.later k) (zL f.later c d) i / gt (gt f.later k).col (gt f.later k).pos)) = (zL f.later c (d + 1)).map rsv := by
            rw [lset_eq, ← List.map_set, List.set_set, z1]
            unfold etaB; rw [zl]
          simp (disch := omega) [-List.map_set]
          repeat (refine And.intro (by omega) ?_)
          refine CodeJ.draw (.qs [0, 1, 2, 3, 4, 5, 6, 7, 8, 9, 10, 11, 12, 13] <| .l 14 [] <| .qs [15, 16, 17, 18] <| .l 19 [0] <| .nil) (by kernel_rfl) (by kernel_rfl) (by simp) ?_
          simp (disch := omega) [h1, h2, lm, xp, zl, -List.map_set]
          repeat (refine And.intro (by omega) ?_)
          refine callS (qQuo_ok _ _ (qok_of q4 (by omega)) (qok_of q2 (by omega))) (by simp) ?_
          simp (disch := omega) [xp, e2, w64, -List.map_set]
          repeat (refine And.intro (by omega) ?_)
          exact ⟨d + 1, k, by have : k + 1 + d = f.later.length := hd; show k + (d + 1) = f.later.length; omega, by show k < k + 1; omega, Le.syn (by simp (disch := omega) [leS, hC, w64])⟩
end Go.Proofs
namespace Go.Dt
open Go Go.Sv Go.Pl Go.Proofs Go.Tb Go.Ut Go.Mx
/-- the first j are done -/
def gL (M : Mat) (z : Nat → Rat) (n j : Nat) : List Rat := (List.range n).map fun r => if r < j then lfw M z r else z r
@[simp] theorem gL_len (M : Mat) (z : Nat → Rat) (n j : Nat) : (gL M z n j).length = n := by simp [gL]
theorem gt_gL {M : Mat} {z : Nat → Rat} {n j r : Nat} (h : r < n) : gt (gL M z n j) r = if r < j then lfw M z r else z r := by unfold gL; rw [gt_range _ h]
theorem gL_zero (M : Mat) (z : List Rat) (n : Nat) (h : z.length = n) : gL M (gt z) n 0 = z := ext_gt' (by simpa using h.symm) fun r hr => by
  have hr : r < n := by simpa using hr
  rw [gt_gL hr, if_neg (by omega)]
theorem gL_set {M : Mat} {z : Nat → Rat} {n j : Nat} : (gL M z n j).set j (lfw M z j) = gL M z n (j + 1) := ext_gt' (by simp) fun r hr => by
  have hr : r < n := by simpa using hr
  rw [gt_set (by simpa using hr), gt_gL hr, gt_gL hr]
  by_cases e : j = r
  · subst e; rw [if_pos rfl, if_pos (by omega)]
  · rw [if_neg e]
    by_cases c : r < j
    · rw [if_pos c, if_pos (by omega)]
    · rw [if_neg c, if_neg (by omega)]
theorem gL_self {M : Mat} {z : Nat → Rat} {n j : Nat} : (gL M z n j).set j (z j) = gL M z n j := ext_gt' (by simp) fun r hr => by
  have hr : r < n := by simpa using hr
  rw [gt_set (by simpa using hr), gt_gL hr]
  by_cases e : j = r
  · subst e; rw [if_pos rfl, if_neg (by omega)]
  · rw [if_neg e]
def accF (M : Mat) (z : Nat → Rat) (j i : Nat) : Rat := z j - sumR (fun q => lfw M z q * M q j) i
theorem accF_zero (M : Mat) (z : Nat → Rat) (j : Nat) : accF M z j 0 = z j := by unfold accF; simp only [sumR]; grind
theorem accF_succ (M : Mat) (z : Nat → Rat) (j i : Nat) : accF M z j (i + 1) = accF M z j i - lfw M z i * M i j := by unfold accF; simp only [sumR]; grind
theorem accF_end (M : Mat) (z : Nat → Rat) (j : Nat) : accF M z j j / M j j = lfw M z j := (lfw_eq M z j).symm
theorem qw_accF {M : Mat} {z : Nat → Rat} {n j : Nat} (hM : ∀ i j, i < n → j < n → Proofs.qw 34375000 (M i j)) (hz : Proofs.qw 110000000 (z j)) (hw : ∀ j, j < n → Proofs.qw 400000000 (lfw M z j)) (hj : j < n) : ∀ i, i ≤ j → Proofs.qw (110000000 + 434375001 * i) (accF M z j i)
  | 0, _ => by rw [accF_zero]; exact qw_mono hz (by omega)
  | i + 1, h => by
    rw [accF_succ]
    exact qw_mono (qw_sub (qw_accF hM hz hw hj i (by omega)) (qw_mul (hw i (by omega)) (hM i j (by omega) hj) (by omega))) (by omega)
/-- the last d are done -/
def hL (M : Mat) (w : Nat → Rat) (n d : Nat) : List Rat := (List.range n).map fun r => if n ≤ r + d then lbw M w n r else w r
@[simp] theorem hL_len (M : Mat) (w : Nat → Rat) (n d : Nat) : (hL M w n d).length = n := by simp [hL]
theorem gt_hL {M : Mat} {w : Nat → Rat} {n d r : Nat} (h : r < n) : gt (hL M w n d) r = if n ≤ r + d then lbw M w n r else w r := by unfold hL; rw [gt_range _ h]
theorem hL_zero (M : Mat) (z : Nat → Rat) (n : Nat) : hL M (lfw M z) n 0 = gL M z n n := ext_gt' (by simp) fun r hr => by
  have hr : r < n := by simpa using hr
  rw [gt_hL hr, if_neg (by omega), gt_gL hr, if_pos hr]
theorem hL_set {M : Mat} {w : Nat → Rat} {n d i : Nat} (h : i + d + 1 = n) : (hL M w n d).set i (lbw M w n i) = hL M w n (d + 1) := ext_gt' (by simp) fun r hr => by
  have hr : r < n := by simpa using hr
  rw [gt_set (by simpa using hr), gt_hL hr, gt_hL hr]
  by_cases e : i = r
  · subst e; rw [if_pos rfl, if_pos (by omega)]
  · rw [if_neg e]
    by_cases c : n ≤ r + d
    · rw [if_pos c, if_pos (by omega)]
    · rw [if_neg c, if_neg (by omega)]
theorem hL_self {M : Mat} {w : Nat → Rat} {n d i : Nat} (h : i + d + 1 = n) : (hL M w n d).set i (w i) = hL M w n d := ext_gt' (by simp) fun r hr => by
  have hr : r < n := by simpa using hr
  rw [gt_set (by simpa using hr), gt_hL hr]
  by_cases e : i = r
  · subst e; rw [if_pos rfl, if_neg (by omega)]
  · rw [if_neg e]
def accH (M : Mat) (w : Nat → Rat) (n j i : Nat) : Rat := w j - tl (fun q => lbw M w n q * M q j) j i
theorem accH_zero (M : Mat) (w : Nat → Rat) (n j : Nat) : accH M w n j (j + 1) = w j := by unfold accH; rw [tl_zero]; grind
theorem accH_succ (M : Mat) (w : Nat → Rat) {n j i : Nat} (h : j < i) : accH M w n j (i + 1) = accH M w n j i - lbw M w n i * M i j := by unfold accH; rw [tl_succ h]; grind
theorem accH_end (M : Mat) (w : Nat → Rat) {n j : Nat} (h : j < n) : accH M w n j n = lbw M w n j := (lbw_eq M w h).symm
theorem qw_accH {M : Mat} {w : Nat → Rat} {n j : Nat} (hM : ∀ i j, i < n → j < n → Proofs.qw 34375000 (M i j)) (hw : Proofs.qw 400000000 (w j)) (hy : ∀ c, c < n → Proofs.qw 17232362 (lbw M w n c)) (hj : j < n) : ∀ i, j + 1 ≤ i → i ≤ n → Proofs.qw (400000000 + 51607364 * i) (accH M w n j i)
  | 0, h, _ => by omega
  | i + 1, h, hi => by
    by_cases e : j = i
    · subst e
      rw [accH_zero]; exact qw_mono hw (by omega)
    · rw [accH_succ M w (by omega)]
      exact qw_mono (qw_sub (qw_accH hM hw hy hj i (by omega) (by omega)) (qw_mul (hy i (by omega)) (hM i j (by omega) hj) (by omega))) (by omega)
end Go.Dt
namespace Go.Proofs
open Go.Sv Go Go.Tb Go.Pl Go.Ut Go.Mx Go.Dt
theorem nlL_rsvY (x : List Rat) : nlL (x.map rsv) = x.map rsv := by
  induction x with
  | nil => rfl
  | cons q x ih => rw [List.map_cons, nlL, ih]; rfl
set_option maxRecDepth 10000 in
theorem leftB {n : Nat} {f : Lu} (h : LuW n f) {z : Nat → Rat} (hz : ∀ j, j < n → qw 110000000 (z j)) (hw : ∀ j, j < n → qw 400000000 (lfw (ofL f.both) z j)) {C : Ctx} (hC : C.fx = []) {Φ : SV → Prop}
    (hQ : CodeJ Tryz.prog C (dropC 6 luLeftBody) (lfSt f n (gL (ofL f.both) z n n)) (retQ Tryz.prog [.tmp 4, .tmp 5] Φ)) :
    CodeJ Tryz.prog C (dropC 5 luLeftBody) (lfSt f n (gL (ofL f.both) z n 0)) (retQ Tryz.prog [.tmp 4, .tmp 5] Φ) := by
  have n6 := h.n6
  have bl := h.b.l
  have hM : ∀ i j, i < n → j < n → qw 34375000 (ofL f.both i j) := fun i j hi hj => h.b.q i j hi hj
  simp only [luLeftBody, Tryz.f64, Option.getD_some, dropC_succ, dropC_zero] at hQ ⊢
  refine CodeJ.cutAt 1 (fun st => st = lfSt f n (gL (ofL f.both) z n n)) ?_ (fun st e => e ▸ hQ)
  simp only [takeC_succ, takeC_zero, lfSt]
  simp
  refine CodeJ.loopL (ι := Nat) (fun j => ⟨203, [(0, .rop (luV f) 0), (6, iv n), (7, .view 0 0 n), (92, iv n), (93, iv j)], [some ⟨4, (gL (ofL f.both) z n j).map rsv, false⟩]⟩)
    (fun j => j ≤ n) (fun j => n - j) 0 (by simp) ?_ ?_
  · simp [leS, hC]
  · rintro j hj
    by_cases hlt : j < n
    · simp (disch := omega) [hlt]
      repeat (refine And.intro (by omega) ?_)
      refine CodeJ.loopL (ι := Nat) (fun i => ⟨203, [(0, .rop (luV f) 0), (6, iv n), (7, .view 0 0 n), (11, iv j), (92, iv n), (93, iv j), (96, iv j), (97, iv i)], [some ⟨4, ((gL (ofL f.both) z n j).set j (accF (ofL f.both) z j i)).map rsv, false⟩]⟩)
        (fun i => i ≤ j) (fun i => j - i) 0 (by simp) ?_ ?_
      · simp [leS, hC, accF_zero, gL_self, -List.map_set]
      · rintro i hi
        have xj : lget (((gL (ofL f.both) z n j).set j (accF (ofL f.both) z j i)).map rsv) j = rsv (accF (ofL f.both) z j i) := by
          rw [lget_r (by simpa using hlt), gt_set (by simpa using hlt), if_pos rfl]
        have q3 := qw_accF hM (hz j hlt) hw hlt i hi
        by_cases hij : i < j
        · have lr := lget_rlv (l := f.both) (i := i) (by omega)
          have wr := h.b.r i (by omega)
          have lm := lget_r (l := gt f.both i) (i := j) (by omega)
          have xi : lget (((gL (ofL f.both) z n j).set j (accF (ofL f.both) z j i)).map rsv) i = rsv (lfw (ofL f.both) z i) := by
            rw [lget_r (by simp; omega), gt_set (by simp; omega), if_neg (by omega), gt_gL (by omega), if_pos hij]
          have q1 := h.b.q i j (by omega) hlt
          have q2 := hw i (by omega)
          have q5 := qw_mul q2 q1 (by omega)
          have e1 : lset (((gL (ofL f.both) z n j).set j (accF (ofL f.both) z j i)).map rsv) j (rsv (accF (ofL f.both) z j i - lfw (ofL f.both) z i * gt (gt f.both i) j)) = ((gL (ofL f.both) z n j).set j (accF (ofL f.both) z j (i + 1))).map rsv := by
            rw [lset_eq, ← List.map_set, accF_succ, List.set_set]; rfl
          simp (disch := omega) [hij, -List.map_set]
          repeat (refine And.intro (by omega) ?_)
          refine CodeJ.draw (.qs [0, 1, 2, 3, 4, 5, 6, 7, 8, 9, 10, 11, 12, 13, 14, 15, 16, 17, 18, 19] <| .l 20 [] <| .l 21 [] <| .qs [22] <| .l 23 [0] <| .nil) (by kernel_rfl) (by kernel_rfl) (by simp) ?_
          simp (disch := omega) [hij, hlt, lr, wr, lm, xi, xj, bl, -List.map_set]
          repeat (refine And.intro (by omega) ?_)
          refine callS (qMul_ok _ _ (qok_of q2 (by omega)) (qok_of q1 (by omega))) (by simp) ?_
          simp [-List.map_set]
          refine callS (qSub_ok _ _ (qok_of q3 (by omega)) (qok_of q5 (by omega))) (by simp) ?_
          simp (disch := omega) [xj, e1, w64, -List.map_set]
          repeat (refine And.intro (by omega) ?_)
          exact ⟨i + 1, by omega, by omega, Le.syn (by simp (disch := omega) [leS, hC, w64, -List.map_set])⟩
        · obtain rfl : i = j := by omega
          have lr := lget_rlv (l := f.both) (i := i) (by omega)
          have wr := h.b.r i (by omega)
          have lm := lget_r (l := gt f.both i) (i := i) (by omega)
          have q1 := h.b.q i i hlt hlt
          have e2 : lset (((gL (ofL f.both) z n i).set i (accF (ofL f.both) z i i)).map rsv) i (rsv (accF (ofL f.both) z i i / gt (gt f.both i) i)) = (gL (ofL f.both) z n (i + 1)).map rsv := by
            rw [lset_eq, ← List.map_set, List.set_set, show gt (gt f.both i) i = ofL f.both i i from rfl, accF_end, gL_set]
          simp (disch := omega) [-List.map_set]
          repeat (refine And.intro (by omega) ?_)
          refine CodeJ.draw (.qs [0, 1, 2, 3, 4, 5, 6, 7, 8, 9, 10, 11, 12, 13, 14, 15] <| .l 16 [] <| .qs [17, 18, 19, 20] <| .l 21 [0] <| .nil) (by kernel_rfl) (by kernel_rfl) (by simp) ?_
          simp (disch := omega) [hlt, lr, wr, lm, xj, bl, -List.map_set]
          repeat (refine And.intro (by omega) ?_)
          refine callS (qQuo_ok _ _ (qok_of q3 (by omega)) (qok_of q1 (by omega))) (by simp) ?_
          simp (disch := omega) [xj, e2, w64, -List.map_set]
          repeat (refine And.intro (by omega) ?_)
          exact ⟨i + 1, by omega, by omega, Le.syn (by simp (disch := omega) [leS, hC, w64])⟩
    · obtain rfl : j = n := by omega
      simp
      repeat (refine And.intro (by omega) ?_)
      simp [leS, lfSt]
set_option maxRecDepth 10000 in
theorem leftC {n : Nat} {f : Lu} (h : LuW n f) {w : Nat → Rat} (hw : ∀ j, j < n → qw 400000000 (w j)) (hy : ∀ j, j < n → qw 17232362 (lbw (ofL f.both) w n j)) {C : Ctx} (hC : C.fx = []) {Φ : SV → Prop}
    (hQ : CodeJ Tryz.prog C (dropC 7 luLeftBody) (lfSt f n (hL (ofL f.both) w n n)) (retQ Tryz.prog [.tmp 4, .tmp 5] Φ)) :
    CodeJ Tryz.prog C (dropC 6 luLeftBody) (lfSt f n (hL (ofL f.both) w n 0)) (retQ Tryz.prog [.tmp 4, .tmp 5] Φ) := by
  have n6 := h.n6
  have bl := h.b.l
  have hM : ∀ i j, i < n → j < n → qw 34375000 (ofL f.both i j) := fun i j hi hj => h.b.q i j hi hj
  simp only [luLeftBody, Tryz.f64, Option.getD_some, dropC_succ, dropC_zero] at hQ ⊢
  refine CodeJ.cutAt 1 (fun st => st = lfSt f n (hL (ofL f.both) w n n)) ?_ (fun st e => e ▸ hQ)
  simp only [takeC_succ, takeC_zero, lfSt]
  simp
  refine CodeJ.loopL (ι := Nat × Nat) (fun ⟨d, i1⟩ => ⟨203, [(0, .rop (luV f) 0), (6, iv n), (7, .view 0 0 n), (13, iv ((i1 : Int) - 1))], [some ⟨4, (hL (ofL f.both) w n d).map rsv, false⟩]⟩)
    (fun ⟨d, i1⟩ => i1 + d = n) (fun ⟨d, i1⟩ => i1) (0, n) (by simp) ?_ ?_
  · simp (disch := omega) [leS, hC, w64]
  · rintro ⟨d, i1⟩ hd
    cases i1 with
    | zero =>
      obtain rfl : d = n := by simpa using hd
      simp [leS, lfSt]
    | succ j =>
      have hlt : j < n := by have : j + 1 + d = n := hd; omega
      have hid : j + d + 1 = n := by have : j + 1 + d = n := hd; omega
      have ei : ((j + 1 : Nat) : Int) - 1 = j := by omega
      simp only [ei]
      simp (disch := omega) [w64]
      repeat (refine And.intro (by omega) ?_)
      refine CodeJ.loopL (ι := Nat) (fun i => ⟨203, [(0, .rop (luV f) 0), (6, iv n), (7, .view 0 0 n), (13, iv j), (14, iv i)], [some ⟨4, ((hL (ofL f.both) w n d).set j (accH (ofL f.both) w n j i)).map rsv, false⟩]⟩)
        (fun i => j + 1 ≤ i ∧ i ≤ n) (fun i => n - i) (j + 1) (by simp; omega) ?_ ?_
      · simp (disch := omega) [leS, hC, w64, accH_zero, hL_self hid, -List.map_set]
      · rintro i ⟨hi1, hi2⟩
        have xj : lget (((hL (ofL f.both) w n d).set j (accH (ofL f.both) w n j i)).map rsv) j = rsv (accH (ofL f.both) w n j i) := by
          rw [lget_r (by simpa using hlt), gt_set (by simpa using hlt), if_pos rfl]
        have q3 := qw_accH hM (hw j hlt) hy hlt i hi1 hi2
        by_cases hin : i < n
        · have lr := lget_rlv (l := f.both) (i := i) (by omega)
          have wr := h.b.r i (by omega)
          have lm := lget_r (l := gt f.both i) (i := j) (by omega)
          have xi : lget (((hL (ofL f.both) w n d).set j (accH (ofL f.both) w n j i)).map rsv) i = rsv (lbw (ofL f.both) w n i) := by
            rw [lget_r (by simpa using hin), gt_set (by simpa using hin), if_neg (by omega), gt_hL hin, if_pos (by omega)]
          have q1 := h.b.q i j hin hlt
          have q2 := hy i hin
          have q5 := qw_mul q2 q1 (by omega)
          have e1 : lset (((hL (ofL f.both) w n d).set j (accH (ofL f.both) w n j i)).map rsv) j (rsv (accH (ofL f.both) w n j i - lbw (ofL f.both) w n i * gt (gt f.both i) j)) = ((hL (ofL f.both) w n d).set j (accH (ofL f.both) w n j (i + 1))).map rsv := by
            rw [lset_eq, ← List.map_set, accH_succ _ _ (by omega), List.set_set]; rfl
          simp (disch := omega) [hin, -List.map_set]
          repeat (refine And.intro (by omega) ?_)
          refine CodeJ.draw (.qs [0, 1, 2, 3, 4, 5, 6, 7, 8, 9, 10, 11, 12, 13, 14, 15, 16, 17, 18, 19] <| .l 20 [] <| .l 21 [] <| .qs [22] <| .l 23 [0] <| .nil) (by kernel_rfl) (by kernel_rfl) (by simp) ?_
          simp (disch := omega) [hin, hlt, lr, wr, lm, xi, xj, bl, -List.map_set]
          repeat (refine And.intro (by omega) ?_)
          refine callS (qMul_ok _ _ (qok_of q2 (by omega)) (qok_of q1 (by omega))) (by simp) ?_
          simp [-List.map_set]
          refine callS (qSub_ok _ _ (qok_of q3 (by omega)) (qok_of q5 (by omega))) (by simp) ?_
          simp (disch := omega) [xj, e1, w64, -List.map_set]
          repeat (refine And.intro (by omega) ?_)
          exact ⟨i + 1, by omega, by omega, Le.syn (by simp (disch := omega) [leS, hC, w64, -List.map_set])⟩
        · obtain rfl : n = i := by omega
          rw [accH_end _ _ hlt, hL_set hid]
          simp (disch := omega) [w64]
          repeat (refine And.intro (by omega) ?_)
          exact ⟨d + 1, j, by omega, by omega, Le.syn (by simp (disch := omega) [leS, hC, w64])⟩
set_option maxRecDepth 10000 in
theorem leftD {n : Nat} {f : Lu} (h : LuW n f) (ho : ∀ i, i < n → gt f.ord i < n) (c : List Rat) {C : Ctx} (hC : C.fx = []) {Φ : SV → Prop} (hΦ : Φ (.tup [.ro ((yL f c n n).map rsv), .val .nilIface])) :
    CodeJ Tryz.prog C (dropC 7 luLeftBody) (lfSt f n (hL (ofL f.both) (wE f c) n n)) (retQ Tryz.prog [.tmp 4, .tmp 5] Φ) := by
  have n6 := h.n6
  have ol := h.o
  simp only [luLeftBody, Tryz.f64, Option.getD_some, dropC_succ, dropC_zero, lfSt]
  refine CodeJ.go ?_
  simp
  refine ⟨by omega, ?_⟩
  refine CodeJ.le (Le.nl _) ?_
  simp [nlS, nlL_rep, rsv0, nlL_rsvY]
  refine CodeJ.go ?_
  simp
  refine CodeJ.loopC (ι := Nat) (fun i => ⟨203, [(0, .rop (luV f) 0), (7, .view 0 0 n), (15, .view 1 0 n), (184, iv n), (185, iv i)], [some ⟨4, (hL (ofL f.both) (wE f c) n n).map rsv, false⟩, some ⟨4, (yL f c n i).map rsv, false⟩]⟩)
    (fun i => i ≤ n) (fun i => n - i) 0 (by simp) ?_ ?_
  · simp [leS, hC, yL]
  · rintro i hi
    by_cases hlt : i < n
    · have lo : lget (f.ord.map natV) i = natV (gt f.ord i) := lget_m natV (by omega)
      have oi := ho i hlt
      have lx : lget ((hL (ofL f.both) (wE f c) n n).map rsv) i = rsv (zE f c n i) := by
        rw [lget_r (by simpa using hlt), gt_hL hlt, if_pos (by omega)]; rfl
      have ly := lget_r (l := yL f c n i) (i := gt f.ord i) (by simpa using oi)
      have e1 : lset ((yL f c n i).map rsv) (gt f.ord i) (rsv (zE f c n i)) = (yL f c n (i + 1)).map rsv := by
        rw [lset_eq, ← List.map_set]; rfl
      refine CodeJ.go ?_
      simp (disch := omega) [hlt]
      repeat (refine And.intro (by omega) ?_)
      refine CodeJ.draw (.qs [0, 1, 2, 3, 4, 5, 6, 7, 8, 9, 10, 11, 12] <| .l 13 [1] <| .nil) (by kernel_rfl) (by kernel_rfl) (by simp) ?_
      simp (disch := omega) [hlt, lo, oi, ol, lx, ly, e1, w64]
      repeat (refine And.intro (by omega) ?_)
      exact ⟨i + 1, by omega, by omega, Le.syn (by simp (disch := omega) [leS, hC, w64])⟩
    · obtain rfl : i = n := by omega
      refine CodeJ.frz 1 rfl (by simp) ?_
      refine CodeJ.go ?_
      have tk : ((yL f c i i).map rsv).take i = (yL f c i i).map rsv := List.take_of_length_le (by simp)
      simp [frzS, tk]
      exact ⟨_, Sub_self _ _ (by simp), hΦ⟩
theorem qLeft_ok {n : Nat} {A A0 : Mat} {f : Lu} (h : LuOK n A f A0) (c : List Rat) (hc : c.length = n) (wc : Wd 4403 c) :
    PureF Tryz.prog 64 [.rop (luV f) 0, .ro (c.map rsv)] (.tup [.ro ((yL f c n n).map rsv), .val .nilIface]) := by
  obtain ⟨hl, -, -⟩ := h.left hc wc
  refine pure_enterJ Tryz.func64 rfl (by simp) (fun C hC => ?_)
  show CodeJ _ _ luLeftBody _ (retQ _ [.tmp 4, .tmp 5] _)
  have zl : (zL f.later c f.later.length).length = n := by rw [zL_len, hc]
  refine leftA h.w c hc hl.z hC ?_
  rw [← gL_zero (ofL f.both) (zL f.later c f.later.length) n zl]
  refine leftB h.w (fun j hj => hl.z _ (Nat.le_refl _) j (by omega)) hl.w hC ?_
  rw [← hL_zero]
  exact leftC h.w hl.w hl.y hC (leftD h.w h.i.lt c hC rfl)
end Go.Proofs
namespace Go.Proofs
open Go.Sv Go Go.Tb Go.Pl Go.Ut Go.Mx Go.Dt
def luS (f : Lu) (s : Value) : SV := .agg [.ro (f.ord.map natV), .ro (f.both.map rlv), bov f.odd, .val s]
theorem lu_lit {β : Bnd} {H : Hp} {f : Lu} {u : Value} (h : Den β H (.rop (luV f) 0) u) : ∃ base c, f.later.length ≤ c ∧ (f.later.length = 0 ∨ ∃ b o, base = some ⟨b, o, none⟩) ∧ Full H 2 (f.later.map etaV) base ∧ Den β H (.rop (luS f (.slice base f.later.length c)) 0) u := by
  simp only [Den] at h
  obtain ⟨b, o, cs, v, hu, hH, hv, hc⟩ := h
  unfold luV at hv
  simp only [Den, DenL] at hv
  obtain ⟨vs, rfl, v0, r0, rfl, o0, d0, v1, r1, rfl, o1, d1, v2, r2, rfl, o2, d2, v3, r3, rfl, o3, d3, rfl⟩ := hv
  have key : ∀ base c, v3 = .slice base f.later.length c → Den β H (.rop (luS f (.slice base f.later.length c)) 0) u := fun base c e => by
    simp only [Den]
    refine ⟨b, o, cs, _, hu, hH, ?_, hc⟩
    unfold luS
    simp only [Den, DenL]
    exact ⟨_, rfl, v0, _, rfl, o0, d0, v1, _, rfl, o1, d1, v2, _, rfl, o2, d2, v3, _, rfl, rfl, ⟨e, rfl⟩, rfl⟩
  rcases d3 with ⟨he, a0, c, rfl⟩ | ⟨b', o', c, s, cs', vs', rfl, g2, g3, g4, g5⟩
  · have hl : f.later.length = 0 := by simpa using congrArg List.length he
    refine ⟨a0, c, by omega, .inl hl, .inl he, ?_⟩
    exact key a0 c (by rw [hl])
  · rw [List.length_map] at key g2
    refine ⟨_, c, g2, .inr ⟨b', o', rfl⟩, ?_, key _ c rfl⟩
    by_cases hn : f.later = []
    · exact .inl (by rw [hn]; rfl)
    · refine .inr ⟨b', o', cs', vs', rfl, g3, ?_, g5⟩
      have hs : s = 2 := by
        obtain ⟨y, hy1, hy2, -⟩ := g4.get (i := 0) (by simpa using List.length_pos_iff.2 hn)
        rw [← hy2]
        have e : lget (f.later.map etaV) 0 = etaV (gt f.later 0) := lget_etaV (List.length_pos_iff.2 hn)
        rw [e] at hy1
        exact hy1.sto (by simp)
      rw [← hs]; exact g4
theorem erV_5 : erV 5 = .sen sent 1 := rfl
theorem qReplaceE_ok (f : Lu) (col : Int) (a : List Rat) (h : col < 0 ∨ (f.ord.length : Int) ≤ col ∨ a.length ≠ f.ord.length) : PureF Tryz.prog 22 [.rop (luV f) 0, iv col, .ro (a.map rsv)] (.tup [.val (.pointer none), erV 4]) := by
  refine pure_enter Tryz.func22 rfl (by simp) (fun C hC => ?_)
  simp
  by_cases c1 : col < 0
  · have c1' : ¬ (0 ≤ col) := by omega
    simp [c1, c1', erV_4]
    refine CodeJ.draw (.qs [0, 1, 2] <| .nil) (by kernel_rfl) (by kernel_rfl) (by simp) ?_
    simp
  · by_cases c2 : (f.ord.length : Int) ≤ col
    · simp [c1]
      refine fun _ => ?_
      refine callS (qSize_ok f) (by simp) ?_
      simp [c2, erV_4]
      refine CodeJ.draw (.qs [0, 1, 2] <| .nil) (by kernel_rfl) (by kernel_rfl) (by simp) ?_
      simp
    · have c3 : ¬ ((a.length : Int) = f.ord.length) := by omega
      have c2' : col < (f.ord.length : Int) := by omega
      simp [c1]
      refine fun _ => ?_
      refine callS (qSize_ok f) (by simp) ?_
      simp [c2, c2']
      refine callS (qSize_ok f) (by simp) ?_
      simp [c3, erV_4]
      refine CodeJ.draw (.qs [0, 1, 2] <| .nil) (by kernel_rfl) (by kernel_rfl) (by simp) ?_
      simp
noncomputable def luReplBody : Code := Tryz.f22.body.getD .skip
theorem qReplace_ok {n : Nat} {A A0 : Mat} {f : Lu} (h : LuOK n A f A0) (col : Nat) (hc : col < n) (a : List Rat) (ha : a.length = n) (wa : Wd 4403 a) :
    PureC Tryz.prog 22 [.rop (luV f) 0, iv col, .ro (a.map rsv)] (fun y => ∃ w : List Rat, w.length = n ∧ Wd 17232362 w ∧ (∀ r, r < n → mulV n A (gt w) r = gt a r) ∧
      y = if gt w col = 0 then .tup [.val (.pointer none), erV 5] else .tup [.rop (luV { f with later := f.later ++ [⟨col, w⟩] }) 0, .val .nilIface]) := by
  have ol := h.w.o
  have n6 := h.w.n6
  refine pure_enterJ Tryz.func22 rfl (by simp) (fun C hC => ?_)
  show CodeJ _ _ luReplBody _ (retQ _ [.tmp 6, .tmp 7] _)
  refine CodeJ.cutAt 7 (fun st => ∃ w : List Rat, ((w.length = n ∧ Wd 17232362 w ∧ (∀ r, r < n → mulV n A (gt w) r = gt a r)) ∧ gt w col ≠ 0) ∧ st = ⟨67, [(10, .ptr 0 0 0)], [some ⟨4, [.agg [.ro (f.ord.map natV), .ro (f.both.map rlv), bov f.odd, .view 2 0 (f.later.length + 1)]], false⟩, some ⟨2, [etaV ⟨col, w⟩], false⟩, some ⟨2, f.later.map etaV ++ [etaV ⟨col, w⟩], false⟩]⟩) ?_ ?_
  rotate_left 1
  · rintro st ⟨w, ⟨hw, z⟩, rfl⟩
    simp only [luReplBody, Tryz.f22, Option.getD_some, dropC_succ, dropC_zero]
    refine CodeJ.frz 2 rfl (by simp) ?_
    simp [frzS]
    have tk : (f.later.map etaV ++ [etaV ⟨col, w⟩]).take (f.later.length + 1) = (f.later ++ [(⟨col, w⟩ : Eta)]).map etaV := by
      rw [List.take_of_length_le (by simp)]; simp
    rw [tk]
    refine CodeJ.frz 0 rfl (by simp [-List.map_append]) ?_
    simp [frzS, -List.map_append]
    refine CodeJ.go ?_
    simp [-List.map_append]
    exact ⟨_, Sub_self _ _ (by simp [-List.map_append]), w, hw.1, hw.2.1, hw.2.2, by rw [if_neg z]; rfl⟩
  simp only [luReplBody, Tryz.f22, Option.getD_some, takeC_succ, takeC_zero]
  have c1 : ¬ ((col : Int) < 0) := by omega
  have c2 : ¬ ((n : Int) ≤ col) := by omega
  have c2' : (col : Int) < n := by omega
  simp [c1]
  refine callS (qSize_ok f) (by simp) ?_
  simp [ol, c2, c2']
  refine callS (qSize_ok f) (by simp) ?_
  simp [ol, ha]
  refine callP (qSolve_ok h a ha wa) (by simp) ?_
  rintro y ⟨w, rfl, wl, ww, hw⟩
  have l1 := lget_r (l := w) (i := col) (by omega)
  simp (disch := omega) [l1, wl, hc]
  refine callS (qSign_ok _) (by simp) ?_
  simp [Int.sign_eq_zero_iff_zero, Rat.num_eq_zero]
  refine ⟨fun z => ?_, fun z => ?_⟩
  · simp [erV_5]
    refine CodeJ.draw (.qs [0, 1, 2] <| .nil) (by kernel_rfl) (by kernel_rfl) (by simp) ?_
    simp
    exact ⟨_, Sub_self _ _ (by simp), w, wl, ww, hw, by simp [z, erV_5]⟩
  · refine CodeJ.again fun C' hC' β a' w' hF hW => ?_
    obtain ⟨u, hu, hd⟩ := hF.2.2 0 (.rop (luV f) 0) (by simp [Go.Sv.get])
    obtain ⟨base, c, b1, b2, b3, b4⟩ := lu_lit hd
    refine ⟨⟨67, [(0, .rop (luS f (.slice base f.later.length c)) 0), (1, iv col), (8, .ro (w.map rsv)), (10, .ptr 0 0 0)], [some ⟨4, [luV f], false⟩]⟩, ⟨hF.1, hF.2.1, fun t x hg => ?_⟩, rfl, ?_⟩
    · simp only [Go.Sv.get] at hg
      by_cases e0 : 0 = t
      · rw [if_pos e0] at hg
        cases hg
        exact ⟨u, by rw [← e0]; exact hu, b4⟩
      · rw [if_neg e0] at hg
        refine hF.2.2 t x ?_
        by_cases e1 : 1 = t
        · subst e1; simp [Go.Sv.get] at hg ⊢; exact hg
        · by_cases e2 : 8 = t
          · subst e2; simp [Go.Sv.get] at hg ⊢; exact hg
          · by_cases e3 : 10 = t
            · subst e3; simp [Go.Sv.get] at hg ⊢; exact hg
            · simp [e1, e2, e3] at hg
    · refine CodeJ.drawP (.qs [0, 1, 2, 3, 4, 5, 6, 7] <| .q 8 [] <| .qs [9, 10, 11, 12] <| .q 13 [] <| .q 14 [] <| .qs [15, 16, 17] <| .l 18 [] <| .l 19 [] <| .qs [20] <| .l 21 [0] <| .nil) (by kernel_rfl) (by kernel_rfl) ?_
      iterate 8
        refine PlJ.qI (by simp) ?_
        simp [luS]
      refine PlJ.qX (iv f.later.length) (by simp) rfl rfl (by simp) (len_lit (base := base) (c := c) (by simp) (by simp; exact ⟨rfl, rfl, rfl, rfl⟩)) ?_
      iterate 4
        refine PlJ.qI (by simp) ?_
        simp [luS]
      refine PlJ.qX (iv f.later.length) (by simp) rfl rfl (by simp) (len_lit (base := base) (c := c) (by simp) (by simp; exact ⟨rfl, rfl, rfl, rfl⟩)) ?_
      refine PlJ.qX (.val (.slice base f.later.length f.later.length)) (by simp) rfl rfl (by simp) (slice3_lit (base := base) (n := f.later.length) (c := c) (by simp) (by simp) (by simp) (by simp; exact ⟨rfl, rfl, rfl, rfl⟩) (by simp; rfl) b1 b2) ?_
      iterate 3
        refine PlJ.qI (by simp) ?_
        simp [luS]
      refine PlJ.lI ?_
      simp
      have ll := h.w.l
      refine PlJ.lX (st' := ⟨_, _, _⟩) rfl rfl (by simp [Pl.there]) (append_lit (c := True) (base := base) (es := f.later.map etaV) (ys := [etaV ⟨col, w⟩]) (n := f.later.length) (by simp) (by simp) (by simp; exact ⟨rfl, rfl, rfl, rfl⟩) (by simp; exact ⟨rfl, rfl, rfl, rfl⟩) (by simp; rfl) (by simp [appEs, etaV]) trivial b3 (by simp) (by simp; omega) (by simp) (by simp)) ?_
      refine PlJ.qI (by simp) ?_
      simp
      refine PlJ.lI ?_
      simp
      refine PlJ.ofVc (by simp) ?_
      simp
      exact ⟨_, ⟨w, ⟨⟨wl, ww, hw⟩, z⟩, rfl⟩, by simp [leS, hC, luV, etaV]⟩
end Go.Proofs

