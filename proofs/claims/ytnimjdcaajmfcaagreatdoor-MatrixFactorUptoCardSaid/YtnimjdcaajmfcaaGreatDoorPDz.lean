/- A table taken apart as the program's value; its size and its determinant. What a table that is taken apart solves, number by number: as a plain law. A text of the prover's own; it names no program. What (*matrix.LU).Solve computes, down the low part. A text of the prover's own. -/
import Derived.Test.YtnimjdcaajmfcaaGreatDoorPDw
import Derived.Test.YtnimjdcaajmfcaaGreatDoorPMv
import Derived.Test.YtnimjdcaajmfcaaGreatDoorPDu
namespace Go.Dt
open Go Go.Sv Go.Pl Go.Proofs Go.Tb Go.Ut Go.Mx
structure Eta where
  pos : Nat
  col : List Rat
instance : Inhabited Eta := ⟨⟨0, []⟩⟩
structure Lu where
  ord : List Nat
  both : List (List Rat)
  odd : Bool
  later : List Eta
def etaV (e : Eta) : SV := .agg ([iv e.pos, .ro (e.col.map rsv)])
@[simp] theorem etaV_csz (e : Eta) : (etaV e).csz = 2 := rfl
@[simp] theorem etaV_isTup (e : Eta) : (etaV e).isTup = false := rfl
@[simp] theorem etaV_isAgg (e : Eta) : (etaV e).isAgg = true := rfl
@[simp] theorem etaV_one (e : Eta) : (etaV e).one = false := rfl
@[simp] theorem etaV_pure (e : Eta) : (etaV e).pure = true := rfl
@[simp] theorem etaV_lt (n : Nat) (e : Eta) : (etaV e).lt n = true := rfl
@[simp] theorem etaV_uses (n : Nat) (e : Eta) : (etaV e).uses n = false := rfl
@[simp] theorem etaV_ks (e : Eta) : (etaV e).ks = [] := rfl
@[simp] theorem etaV_f0 (e : Eta) : lget (etaV e).cells 0 = iv e.pos := rfl
@[simp] theorem etaV_f1 (e : Eta) : lget (etaV e).cells 1 = .ro (e.col.map rsv) := rfl
theorem lget_etaV {l : List _} {i : Nat} (h : i < l.length) : lget (l.map etaV) i = etaV (gt l i) := lget_m _ h
def luV (f : Lu) : SV := .agg ([.ro (f.ord.map natV), .ro (f.both.map rlv), bov f.odd, .ro (f.later.map etaV)])
@[simp] theorem luV_csz (f : Lu) : (luV f).csz = 4 := rfl
@[simp] theorem luV_isTup (f : Lu) : (luV f).isTup = false := rfl
@[simp] theorem luV_isAgg (f : Lu) : (luV f).isAgg = true := rfl
@[simp] theorem luV_one (f : Lu) : (luV f).one = false := rfl
@[simp] theorem luV_pure (f : Lu) : (luV f).pure = true := rfl
@[simp] theorem luV_lt (n : Nat) (f : Lu) : (luV f).lt n = true := rfl
@[simp] theorem luV_uses (n : Nat) (f : Lu) : (luV f).uses n = false := rfl
@[simp] theorem luV_ks (f : Lu) : (luV f).ks = [] := rfl
@[simp] theorem luV_f0 (f : Lu) : lget (luV f).cells 0 = .ro (f.ord.map natV) := rfl
@[simp] theorem luV_f1 (f : Lu) : lget (luV f).cells 1 = .ro (f.both.map rlv) := rfl
@[simp] theorem luV_f2 (f : Lu) : lget (luV f).cells 2 = bov f.odd := rfl
@[simp] theorem luV_f3 (f : Lu) : lget (luV f).cells 3 = .ro (f.later.map etaV) := rfl
def etaP (l : List Eta) : Nat → Rat
  | 0 => 1
  | k + 1 => etaP l k * gt (gt l k).col (gt l k).pos
/-- numbers that are not great -/
structure LuW (n : Nat) (f : Lu) : Prop where
  n6 : n ≤ 6
  o : f.ord.length = n
  b : Tw n n 34375000 f.both
  l : f.later.length ≤ 10
  e : ∀ i, i < f.later.length → (gt f.later i).pos < n ∧ (gt f.later i).col.length = n ∧ Wd 20000000 (gt f.later i).col
theorem qw_prodD {n : Nat} {b : List (List Rat)} (h : Tw n n 34375000 b) : ∀ k, k ≤ n → Proofs.qw (1 + 34375001 * k) (prodD (ofL b) k)
  | 0, _ => ⟨fw_one (Nat.le_refl 1), fw_one (Nat.le_refl 1)⟩
  | k + 1, hk => qw_mono (qw_mul (qw_prodD h k (by omega)) (h.q k k (by omega) (by omega)) (by omega)) (by omega)
theorem qw_etaP {n : Nat} {f : Lu} (h : LuW n f) : ∀ k, k ≤ f.later.length → Proofs.qw (1 + 20000001 * k) (etaP f.later k)
  | 0, _ => ⟨fw_one (Nat.le_refl 1), fw_one (Nat.le_refl 1)⟩
  | k + 1, hk => by
    obtain ⟨h1, h2, h3⟩ := h.e k (by omega)
    exact qw_mono (qw_mul (qw_etaP h k (by omega)) (h3 _ (by omega)) (by omega)) (by omega)
theorem qw_sgnO {k : Nat} {q : Rat} (h : Proofs.qw k q) (o : Bool) : Proofs.qw k (sgn o * q) := by
  unfold sgn; split
  · rw [show (-1 : Rat) * q = -q by grind]; exact qw_neg h
  · rw [Rat.one_mul]; exact h
end Go.Dt
namespace Go.Proofs
open Go.Sv Go Go.Tb Go.Pl Go.Ut Go.Mx Go.Dt
theorem qSize_ok (f : Lu) : PureF Tryz.prog 15 [.rop (luV f) 0] (iv f.ord.length) := by
  refine pure_enter Tryz.func15 rfl (by simp) (fun C hC => ?_)
  simp
noncomputable def luDetBody : Code := Tryz.f16.body.getD .skip
set_option maxRecDepth 10000 in
theorem qDet_ok {n : Nat} {f : Lu} (h : LuW n f) : PureF Tryz.prog 16 [.rop (luV f) 0] (rsv (sgn f.odd * prodD (ofL f.both) n * etaP f.later f.later.length)) := by
  have n6 := h.n6
  have bl := h.b.l
  have ll := h.l
  refine pure_enterJ Tryz.func16 rfl (by simp) (fun C hC => ?_)
  show CodeJ _ _ luDetBody _ (retQ _ [.cell 2 50] _)
  refine CodeJ.cutAt 3 (fun st => st = ⟨54, [(0, .rop (luV f) 0), (2, .ptr 0 0 0), (3, .ptr 1 0 0)], [some ⟨4, [.agg [.val (.bool false), .val (.slice none 0 0), .val (.bool false), .val (.slice none 0 0)]], false⟩, some ⟨4, [rsv (sgn f.odd)], false⟩]⟩) ?_ ?_
  · simp only [luDetBody, Tryz.f16, Option.getD_some, takeC_succ, takeC_zero]
    simp
    refine callS (qInt_ok 1 (by omega) (by omega)) (by simp) ?_
    simp
    refine ⟨fun e => ?_, fun e => ?_⟩
    · refine callS (qNeg_ok 1) (by simp) ?_
      simp [leS, hC, e, sgn]
    · simp [leS, hC, e, sgn]
  · rintro st rfl
    simp only [luDetBody, Tryz.f16, Option.getD_some, dropC_succ, dropC_zero]
    refine CodeJ.go ?_
    simp
    refine CodeJ.loopL (ι := Nat) (fun i => ⟨54, [(0, .rop (luV f) 0), (2, .ptr 0 0 0), (3, .ptr 1 0 0), (18, iv n), (19, iv i)], [some ⟨4, [.agg [.val (.bool false), .val (.slice none 0 0), .val (.bool false), .val (.slice none 0 0)]], false⟩, some ⟨4, [rsv (sgn f.odd * prodD (ofL f.both) i)], false⟩]⟩)
      (fun i => i ≤ n) (fun i => n - i) 0 (by simp) ?_ ?_
    · simp [leS, hC, bl, prodD]
    · rintro i hi
      by_cases hlt : i < n
      · have lb := lget_rlv (l := f.both) (i := i) (by omega)
        have wb := h.b.r i hlt
        have l1 := lget_r (l := gt f.both i) (i := i) (by omega)
        have q1 := h.b.q i i hlt hlt
        have q2 := qw_sgnO (qw_prodD h.b i hi) f.odd
        simp (disch := omega) [hlt]
        repeat (refine And.intro (by omega) ?_)
        refine CodeJ.draw (.qs [0, 1, 2, 3, 4, 5, 6, 7, 8, 9, 10] <| .l 11 [] <| .l 12 [1] <| .nil) (by kernel_rfl) (by kernel_rfl) (by simp) ?_
        simp (disch := omega) [hlt, bl, lb, wb, l1]
        repeat (refine And.intro (by omega) ?_)
        refine callS (qMul_ok _ _ (qok_of q2 (by omega)) (qok_of q1 (by omega))) (by simp) ?_
        simp (disch := omega) [w64]
        repeat (refine And.intro (by omega) ?_)
        exact ⟨i + 1, by omega, by omega, Le.syn (by simp (disch := omega) [leS, hC, w64, prodD, ofL, Rat.mul_assoc])⟩
      · obtain rfl : i = n := by omega
        simp
        repeat (refine And.intro (by omega) ?_)
        refine CodeJ.loopL (ι := Nat) (fun k => ⟨54, [(2, .ptr 0 0 0), (3, .ptr 1 0 0), (38, .ro (f.later.map etaV)), (39, iv f.later.length), (40, iv k)], [some ⟨4, [.agg [.val (.bool false), .val (.slice none 0 0), .val (.bool false), .val (.slice none 0 0)]], false⟩, some ⟨4, [rsv (sgn f.odd * prodD (ofL f.both) i * etaP f.later k)], false⟩]⟩)
          (fun k => k ≤ f.later.length) (fun k => f.later.length - k) 0 (by simp) ?_ ?_
        · simp [leS, hC, etaP]
        · rintro k hk
          by_cases hkl : k < f.later.length
          · obtain ⟨h1, h2, h3⟩ := h.e k hkl
            have le := lget_etaV hkl
            have l1 := lget_r (l := (gt f.later k).col) (i := (gt f.later k).pos) (by omega)
            have q1 := h3 (gt f.later k).pos (by omega)
            have q2 := qw_mul (qw_sgnO (qw_prodD h.b i (by omega)) f.odd) (qw_etaP h k hk) (by omega)
            simp (disch := omega) [hkl, le]
            repeat (refine And.intro (by omega) ?_)
            refine CodeJ.draw (.qs [0, 1, 2, 3, 4, 5, 6] <| .l 7 [] <| .l 8 [1] <| .nil) (by kernel_rfl) (by kernel_rfl) (by simp) ?_
            simp (disch := omega) [h1, h2, l1]
            repeat (refine And.intro (by omega) ?_)
            refine callS (qMul_ok _ _ (qok_of q2 (by omega)) (qok_of q1 (by omega))) (by simp) ?_
            simp (disch := omega) [w64]
            repeat (refine And.intro (by omega) ?_)
            exact ⟨k + 1, by omega, by omega, Le.syn (by simp (disch := omega) [leS, hC, w64, etaP, Rat.mul_assoc])⟩
          · obtain rfl : k = f.later.length := by omega
            simp
end Go.Proofs
namespace Go.Dt
open Go
/-- down the low part -/
def fwdF (M : Mat) (b : Nat → Rat) : Nat → Nat → Rat
  | 0 => fun _ => 0
  | i + 1 => fun c => if c = i then b i - sumR (fun j => M i j * fwdF M b i j) i else fwdF M b i c
theorem fwdF_keep {M : Mat} {b : Nat → Rat} {c : Nat} : ∀ {i : Nat}, c < i → fwdF M b i c = fwdF M b (c + 1) c
  | i + 1, h => by
    by_cases e : c = i
    · rw [e]
    · rw [← fwdF_keep (i := i) (by omega)]
      simp only [fwdF]
      rw [if_neg e]
def fwd (M : Mat) (b : Nat → Rat) (i : Nat) : Rat := fwdF M b (i + 1) i
theorem fwd_eq (M : Mat) (b : Nat → Rat) (i : Nat) : fwd M b i = b i - sumR (fun j => M i j * fwd M b j) i := by
  have e : fwd M b i = b i - sumR (fun j => M i j * fwdF M b i j) i := by
    unfold fwd
    simp only [fwdF, if_true]
  rw [e, sumR_congr i fun j hj => by rw [fwdF_keep hj]]
  rfl
/-- up the high part -/
def bwdF (M : Mat) (y : Nat → Rat) (n : Nat) : Nat → Nat → Rat
  | 0 => fun _ => 0
  | d + 1 => fun c => if c + (d + 1) = n then (y c - tl (fun j => M c j * bwdF M y n d j) c n) / M c c else bwdF M y n d c
theorem bwdF_keep {M : Mat} {y : Nat → Rat} {n c : Nat} : ∀ {d : Nat}, n ≤ c + d → d ≤ n → c < n → bwdF M y n d c = bwdF M y n (n - c) c
  | 0, h, _, hc => by omega
  | d + 1, h, hd, hc => by
    by_cases e : c + (d + 1) = n
    · rw [show n - c = d + 1 by omega]
    · rw [← bwdF_keep (d := d) (by omega) (by omega) hc]
      simp only [bwdF]
      rw [if_neg e]
def bwd (M : Mat) (y : Nat → Rat) (n c : Nat) : Rat := bwdF M y n (n - c) c
theorem tl_congr {f g : Nat → Rat} {i : Nat} (n : Nat) (h : ∀ c, i < c → c < n → f c = g c) : tl f i n = tl g i n := sumR_congr n fun c hc => by
  split
  · rename_i q; exact h c q hc
  · rfl
theorem bwd_eq (M : Mat) (y : Nat → Rat) {n c : Nat} (hc : c < n) : bwd M y n c = (y c - tl (fun j => M c j * bwd M y n j) c n) / M c c := by
  have e : bwd M y n c = (y c - tl (fun j => M c j * bwdF M y n (n - c - 1) j) c n) / M c c := by
    unfold bwd
    obtain ⟨d, hd⟩ : ∃ d, n - c = d + 1 := ⟨n - c - 1, by omega⟩
    rw [hd]
    simp only [bwdF]
    rw [if_pos (by omega)]
    rfl
  rw [e, tl_congr n fun j h1 h2 => by rw [bwdF_keep (d := n - c - 1) (by omega) (by omega) h2]]
  rfl
theorem bwd_ut {M : Mat} {y : Nat → Rat} {n i : Nat} (hi : i < n) (hz : M i i ≠ 0) : sumR (fun c => ut M i c * bwd M y n c) n = y i := by
  rw [ut_sum n hi, bwd_eq M y hi]
  have : (y i - tl (fun j => M i j * bwd M y n j) i n) / M i i * M i i = y i - tl (fun j => M i j * bwd M y n j) i n := Rat.div_mul_cancel hz
  grind
/-- what the two parts solve, as it is computed -/
theorem LuI.solves {n : Nat} {A : Mat} {M : Mat} {ord : Nat → Nat} {odd : Bool} (h : LuI n A n M ord odd) (b : Nat → Rat) (r : Nat) (hr : r < n) : mulV n A (bwd M (fwd M fun i => b (ord i)) n) r = b r :=
  h.solve (y := fwd M fun i => b (ord i)) (fun i _ => fwd_eq M _ i) (fun i hi => bwd_ut hi (h.piv i hi)) r hr
/-! from the left -/
/-- down the high part, by columns -/
def lfwF (M : Mat) (c : Nat → Rat) : Nat → Nat → Rat
  | 0 => fun _ => 0
  | j + 1 => fun q => if q = j then (c j - sumR (fun i => lfwF M c j i * M i j) j) / M j j else lfwF M c j q
theorem lfwF_keep {M : Mat} {b : Nat → Rat} {c : Nat} : ∀ {i : Nat}, c < i → lfwF M b i c = lfwF M b (c + 1) c
  | i + 1, h => by
    by_cases e : c = i
    · rw [e]
    · rw [← lfwF_keep (i := i) (by omega)]
      simp only [lfwF]
      rw [if_neg e]
def lfw (M : Mat) (c : Nat → Rat) (j : Nat) : Rat := lfwF M c (j + 1) j
theorem lfw_eq (M : Mat) (c : Nat → Rat) (j : Nat) : lfw M c j = (c j - sumR (fun i => lfw M c i * M i j) j) / M j j := by
  have e : lfw M c j = (c j - sumR (fun i => lfwF M c j i * M i j) j) / M j j := by
    unfold lfw
    simp only [lfwF, if_true]
  rw [e, sumR_congr j fun i hi => by rw [lfwF_keep hi]]
  rfl
theorem lfw_ut {M : Mat} {c : Nat → Rat} {n j : Nat} (hj : j < n) (hz : M j j ≠ 0) : sumR (fun i => lfw M c i * ut M i j) n = c j := by
  rw [sumR_cut (m := j + 1) n (by omega) fun i h1 h2 => by
    unfold ut; rw [if_neg (by omega)]; grind]
  simp only [sumR]
  rw [sumR_congr j (g := fun i => lfw M c i * M i j) fun i hi => by unfold ut; rw [if_pos (by omega)], lfw_eq M c j]
  unfold ut
  rw [if_pos (Nat.le_refl _)]
  have : (c j - sumR (fun i => lfw M c i * M i j) j) / M j j * M j j = c j - sumR (fun i => lfw M c i * M i j) j := Rat.div_mul_cancel hz
  grind
/-- up the low part, by columns -/
def lbwF (M : Mat) (w : Nat → Rat) (n : Nat) : Nat → Nat → Rat
  | 0 => fun _ => 0
  | d + 1 => fun c => if c + (d + 1) = n then w c - tl (fun i => lbwF M w n d i * M i c) c n else lbwF M w n d c
theorem lbwF_keep {M : Mat} {y : Nat → Rat} {n c : Nat} : ∀ {d : Nat}, n ≤ c + d → d ≤ n → c < n → lbwF M y n d c = lbwF M y n (n - c) c
  | 0, h, _, hc => by omega
  | d + 1, h, hd, hc => by
    by_cases e : c + (d + 1) = n
    · rw [show n - c = d + 1 by omega]
    · rw [← lbwF_keep (d := d) (by omega) (by omega) hc]
      simp only [lbwF]
      rw [if_neg e]
def lbw (M : Mat) (w : Nat → Rat) (n c : Nat) : Rat := lbwF M w n (n - c) c
theorem lbw_eq (M : Mat) (w : Nat → Rat) {n c : Nat} (hc : c < n) : lbw M w n c = w c - tl (fun i => lbw M w n i * M i c) c n := by
  have e : lbw M w n c = w c - tl (fun i => lbwF M w n (n - c - 1) i * M i c) c n := by
    unfold lbw
    obtain ⟨d, hd⟩ : ∃ d, n - c = d + 1 := ⟨n - c - 1, by omega⟩
    rw [hd]
    simp only [lbwF]
    rw [if_pos (by omega)]
    rfl
  rw [e, tl_congr n fun j h1 h2 => by rw [lbwF_keep (d := n - c - 1) (by omega) (by omega) h2]]
  rfl
theorem LuI.lefts {n : Nat} {A : Mat} {M : Mat} {ord : Nat → Nat} {odd : Bool} (h : LuI n A n M ord odd) (c y : Nat → Rat) (hy : ∀ i, i < n → y (ord i) = lbw M (lfw M c) n i) (q : Nat) (hq : q < n) : mulL n A y q = c q :=
  h.left (w := lfw M c) (z := lbw M (lfw M c) n) (fun j hj => lfw_ut hj (h.piv j hj)) (fun j hj => by rw [lbw_eq M _ hj]; grind) hy q hq
end Go.Dt
namespace Go.Dt
open Go Go.Sv Go.Pl Go.Proofs Go.Tb Go.Ut Go.Mx
def pw : Nat → Nat
  | 0 => 1
  | j + 1 => 2 * pw j + 34379405
theorem pw_mono : ∀ {m n : Nat}, m ≤ n → pw m ≤ pw n
  | m, 0, h => by rw [show m = 0 by omega]; exact Nat.le_refl _
  | m, n + 1, h => by
    by_cases e : m = n + 1
    · rw [e]; exact Nat.le_refl _
    · have := pw_mono (m := m) (n := n) (by omega)
      simp only [pw]; omega
theorem pw_six {n : Nat} (h : n ≤ 6) : pw n ≤ 2200000000 := Nat.le_trans (pw_mono h) (by decide)
theorem qw_fwd {n : Nat} {M : Mat} {b : Nat → Rat} (hM : ∀ i j, i < n → j < n → Proofs.qw 34375000 (M i j)) (hb : ∀ i, i < n → Proofs.qw 4403 (b i)) : ∀ r, r < n → (∀ j, j ≤ r → Proofs.qw (pw j) (sumR (fun c => M r c * fwd M b c) j)) ∧ Proofs.qw (4404 + pw r) (fwd M b r) := fun r => by
  induction r using Nat.strongRecOn with
  | ind r ih =>
    intro hr
    have h1 : ∀ j, j ≤ r → Proofs.qw (pw j) (sumR (fun c => M r c * fwd M b c) j) := fun j => by
      induction j with
      | zero => intro _; exact ⟨fw_zero _, fw_one (Nat.le_refl 1)⟩
      | succ j ihj =>
        intro hj
        have a := ihj (by omega)
        have c := (ih j (by omega) (by omega)).2
        exact qw_mono (qw_add a (qw_mul (hM r j hr (by omega)) c (by omega))) (by simp only [pw]; omega)
    refine ⟨h1, ?_⟩
    rw [fwd_eq]
    exact qw_mono (qw_sub (hb r hr) (h1 r (Nat.le_refl _))) (by omega)
/-- the first i are done -/
def fwL (M : Mat) (b : Nat → Rat) (n i : Nat) : List Rat := (List.range n).map fun r => if r < i then fwd M b r else 0
@[simp] theorem fwL_len (M : Mat) (b : Nat → Rat) (n i : Nat) : (fwL M b n i).length = n := by simp [fwL]
theorem gt_fwL {M : Mat} {b : Nat → Rat} {n i r : Nat} (h : r < n) : gt (fwL M b n i) r = if r < i then fwd M b r else 0 := by unfold fwL; rw [gt_range _ h]
theorem fwL_zero (M : Mat) (b : Nat → Rat) (n : Nat) : fwL M b n 0 = List.replicate n 0 := ext_gt' (by simp) fun r hr => by
  have hr : r < n := by simpa using hr
  rw [gt_fwL hr, if_neg (by omega)]; simp [gt, hr]
theorem fwL_set {M : Mat} {b : Nat → Rat} {n i : Nat} : (fwL M b n i).set i (fwd M b i) = fwL M b n (i + 1) := ext_gt' (by simp) fun r hr => by
  have hr : r < n := by simpa using hr
  rw [gt_set (by simpa using hr), gt_fwL hr, gt_fwL hr]
  by_cases e : i = r
  · subst e; rw [if_pos rfl, if_pos (by omega)]
  · rw [if_neg e]
    by_cases c : r < i
    · rw [if_pos c, if_pos (by omega)]
    · rw [if_neg c, if_neg (by omega)]
def bo (f : Lu) (b : List Rat) : Nat → Rat := fun i => gt b (gt f.ord i)
def acc (f : Lu) (b : List Rat) (i j : Nat) : Rat := bo f b i - sumR (fun c => ofL f.both i c * fwd (ofL f.both) (bo f b) c) j
theorem acc_succ (f : Lu) (b : List Rat) (i j : Nat) : acc f b i (j + 1) = acc f b i j - gt (gt f.both i) j * fwd (ofL f.both) (bo f b) j := by
  unfold acc
  simp only [sumR]
  unfold ofL; grind
theorem acc_end (f : Lu) (b : List Rat) (i : Nat) : acc f b i i = fwd (ofL f.both) (bo f b) i := (fwd_eq _ _ i).symm
theorem acc_zero (f : Lu) (b : List Rat) (i : Nat) : acc f b i 0 = bo f b i := by
  unfold acc
  simp only [sumR]; grind
theorem fwL_all {M : Mat} {b : Nat → Rat} {n r : Nat} (h : r < n) : gt (fwL M b n n) r = fwd M b r := by rw [gt_fwL h, if_pos h]
/-- the last d are done -/
def bwL (M : Mat) (y : Nat → Rat) (n d : Nat) : List Rat := (List.range n).map fun r => if n ≤ r + d then bwd M y n r else y r
@[simp] theorem bwL_len (M : Mat) (y : Nat → Rat) (n d : Nat) : (bwL M y n d).length = n := by simp [bwL]
theorem gt_bwL {M : Mat} {y : Nat → Rat} {n d r : Nat} (h : r < n) : gt (bwL M y n d) r = if n ≤ r + d then bwd M y n r else y r := by unfold bwL; rw [gt_range _ h]
theorem bwL_zero (M : Mat) (b : Nat → Rat) (n : Nat) : bwL M (fwd M b) n 0 = fwL M b n n := ext_gt' (by simp) fun r hr => by
  have hr : r < n := by simpa using hr
  rw [gt_bwL hr, if_neg (by omega), fwL_all hr]
theorem bwL_set {M : Mat} {y : Nat → Rat} {n d i : Nat} (h : i + d + 1 = n) : (bwL M y n d).set i (bwd M y n i) = bwL M y n (d + 1) := ext_gt' (by simp) fun r hr => by
  have hr : r < n := by simpa using hr
  rw [gt_set (by simpa using hr), gt_bwL hr, gt_bwL hr]
  by_cases e : i = r
  · subst e; rw [if_pos rfl, if_pos (by omega)]
  · rw [if_neg e]
    by_cases c : n ≤ r + d
    · rw [if_pos c, if_pos (by omega)]
    · rw [if_neg c, if_neg (by omega)]
theorem bwL_self {M : Mat} {y : Nat → Rat} {n d i : Nat} (h : i + d + 1 = n) : (bwL M y n d).set i (y i) = bwL M y n d := ext_gt' (by simp) fun r hr => by
  have hr : r < n := by simpa using hr
  rw [gt_set (by simpa using hr), gt_bwL hr]
  by_cases e : i = r
  · subst e; rw [if_pos rfl, if_neg (by omega)]
  · rw [if_neg e]
def accB (M : Mat) (y : Nat → Rat) (n i j : Nat) : Rat := y i - tl (fun c => M i c * bwd M y n c) i j
theorem accB_zero (M : Mat) (y : Nat → Rat) (n i : Nat) : accB M y n i (i + 1) = y i := by unfold accB; rw [tl_zero]; grind
theorem accB_succ (M : Mat) (y : Nat → Rat) {n i j : Nat} (h : i < j) : accB M y n i (j + 1) = accB M y n i j - M i j * bwd M y n j := by unfold accB; rw [tl_succ h]; grind
theorem accB_end (M : Mat) (y : Nat → Rat) {n i : Nat} (h : i < n) : accB M y n i n / M i i = bwd M y n i := (bwd_eq M y h).symm
theorem qw_accB {M : Mat} {y : Nat → Rat} {n i : Nat} (hM : ∀ i j, i < n → j < n → Proofs.qw 34375000 (M i j)) (hy : Proofs.qw 2200010000 (y i)) (hX : ∀ c, c < n → Proofs.qw 20000000 (bwd M y n c)) (hi : i < n) : ∀ j, i + 1 ≤ j → j ≤ n → Proofs.qw (2200010000 + 54375001 * j) (accB M y n i j)
  | 0, h, _ => by omega
  | j + 1, h, hj => by
    by_cases e : i = j
    · subst e
      rw [accB_zero]; exact qw_mono hy (by omega)
    · rw [accB_succ M y (by omega)]
      exact qw_mono (qw_sub (qw_accB hM hy hX hi j (by omega) (by omega)) (qw_mul (hM i j hi (by omega)) (hX j (by omega)) (by omega))) (by omega)
def solX (f : Lu) (b : List Rat) (n : Nat) : Nat → Rat := bwd (ofL f.both) (fwd (ofL f.both) (bo f b)) n
end Go.Dt
namespace Go.Proofs
open Go.Sv Go Go.Tb Go.Pl Go.Ut Go.Mx Go.Dt
noncomputable def luSolveBody : Code := Tryz.f59.body.getD .skip
def fwSt (f : Lu) (n : Nat) (x : List Rat) : St := ⟨164, [(0, .rop (luV f) 0), (6, iv n), (7, .view 0 0 n)], [some ⟨4, x.map rsv, false⟩]⟩
set_option maxRecDepth 10000 in
theorem solveA {n : Nat} {f : Lu} (h : LuW n f) (ho : ∀ i, i < n → gt f.ord i < n) (b : List Rat) (hb : b.length = n) (wb : Wd 4403 b) {C : Ctx} (hC : C.fx = []) {Φ : SV → Prop}
    (hQ : CodeJ Tryz.prog C (dropC 5 luSolveBody) (fwSt f n (fwL (ofL f.both) (bo f b) n n)) (retQ Tryz.prog [.tmp 4, .tmp 5] Φ)) :
    CodeJ Tryz.prog C luSolveBody ⟨164, argFr 0 [.rop (luV f) 0, .ro (b.map rsv)], []⟩ (retQ Tryz.prog [.tmp 4, .tmp 5] Φ) := by
  have n6 := h.n6
  have bl := h.b.l
  have ol := h.o
  have hM : ∀ i j, i < n → j < n → qw 34375000 (ofL f.both i j) := fun i j hi hj => h.b.q i j hi hj
  have hbo : ∀ i, i < n → qw 4403 (bo f b i) := fun i hi => wb _ (by rw [hb]; exact ho i hi)
  refine CodeJ.cutAt 5 (fun st => st = fwSt f n (fwL (ofL f.both) (bo f b) n n)) ?_ (fun st e => e ▸ hQ)
  simp only [luSolveBody, Tryz.f59, Option.getD_some, takeC_succ, takeC_zero]
  simp
  refine callS (qSize_ok f) (by simp) ?_
  simp [ol, hb]
  refine ⟨by omega, ?_⟩
  refine CodeJ.le (Le.nl _) ?_
  simp [nlS, nlL_rep, rsv0]
  refine CodeJ.go ?_
  simp
  refine CodeJ.loopL (ι := Nat) (fun i => ⟨164, [(0, .rop (luV f) 0), (1, .ro (b.map rsv)), (6, iv n), (7, .view 0 0 n), (25, iv n), (26, iv i)], [some ⟨4, (fwL (ofL f.both) (bo f b) n i).map rsv, false⟩]⟩)
    (fun i => i ≤ n) (fun i => n - i) 0 (by simp) ?_ ?_
  · simp [leS, hC, fwL_zero]
  · rintro i hi
    by_cases hlt : i < n
    · have lo : lget (f.ord.map natV) i = natV (gt f.ord i) := lget_m natV (by omega)
      have oi := ho i hlt
      have lb := lget_r (l := b) (i := gt f.ord i) (by omega)
      have lx := lget_r (l := fwL (ofL f.both) (bo f b) n i) (i := i) (by simpa using hlt)
      have e0 : lset ((fwL (ofL f.both) (bo f b) n i).map rsv) i (rsv (gt b (gt f.ord i))) = ((fwL (ofL f.both) (bo f b) n i).set i (acc f b i 0)).map rsv := by
        rw [lset_eq, List.map_set, acc_zero]; rfl
      simp (disch := omega) [hlt, lo, oi, lb, hb, lx, ol, e0, -List.map_set]
      repeat (refine And.intro (by omega) ?_)
      refine CodeJ.loopL (ι := Nat) (fun j => ⟨164, [(0, .rop (luV f) 0), (1, .ro (b.map rsv)), (6, iv n), (7, .view 0 0 n), (8, iv i), (25, iv n), (26, iv i), (42, iv i), (43, iv j)], [some ⟨4, ((fwL (ofL f.both) (bo f b) n i).set i (acc f b i j)).map rsv, false⟩]⟩)
        (fun j => j ≤ i) (fun j => i - j) 0 (by simp) ?_ ?_
      · simp [leS, hC]
      · rintro j hj
        by_cases hji : j < i
        · have lr := lget_rlv (l := f.both) (i := i) (by omega)
          have wr := h.b.r i hlt
          have lm := lget_r (l := gt f.both i) (i := j) (by omega)
          have xi : lget (((fwL (ofL f.both) (bo f b) n i).set i (acc f b i j)).map rsv) i = rsv (acc f b i j) := by
            rw [lget_r (by simpa using hlt), gt_set (by simpa using hlt), if_pos rfl]
          have xj : lget (((fwL (ofL f.both) (bo f b) n i).set i (acc f b i j)).map rsv) j = rsv (fwd (ofL f.both) (bo f b) j) := by
            rw [lget_r (by simp; omega), gt_set (by simp; omega), if_neg (by omega), gt_fwL (by omega), if_pos hji]
          have q1 := h.b.q i j hlt (by omega)
          have q2 := (qw_fwd hM hbo j (by omega)).2
          have q3 := (qw_fwd hM hbo i hlt).1 j hj
          have p1 := pw_six (n := j) (by omega)
          have q4 : qw (4403 + pw j + 1) (acc f b i j) := qw_sub (hbo i hlt) q3
          have q5 := qw_mul q1 q2 (by omega)
          have e1 : lset (((fwL (ofL f.both) (bo f b) n i).set i (acc f b i j)).map rsv) i (rsv (acc f b i j - gt (gt f.both i) j * fwd (ofL f.both) (bo f b) j)) = ((fwL (ofL f.both) (bo f b) n i).set i (acc f b i (j + 1))).map rsv := by
            rw [lset_eq, ← List.map_set, ← acc_succ, List.set_set]
          simp (disch := omega) [hji, -List.map_set]
          repeat (refine And.intro (by omega) ?_)
          refine CodeJ.draw (.qs [0, 1, 2, 3, 4, 5, 6, 7, 8, 9, 10, 11, 12, 13, 14, 15, 16, 17, 18, 19] <| .l 20 [] <| .l 21 [] <| .qs [22] <| .l 23 [0] <| .nil) (by kernel_rfl) (by kernel_rfl) (by simp) ?_
          simp (disch := omega) [hji, hlt, lr, wr, lm, xi, xj, bl, -List.map_set]
          repeat (refine And.intro (by omega) ?_)
          refine callS (qMul_ok _ _ (qok_of q1 (by omega)) (qok_of q2 (by omega))) (by simp) ?_
          simp [-List.map_set]
          refine callS (qSub_ok _ _ (qok_of q4 (by omega)) (qok_of q5 (by omega))) (by simp) ?_
          simp (disch := omega) [xi, e1, w64, -List.map_set]
          repeat (refine And.intro (by omega) ?_)
          exact ⟨j + 1, by omega, by omega, Le.syn (by simp (disch := omega) [leS, hC, w64, -List.map_set])⟩
        · obtain rfl : j = i := by omega
          rw [acc_end, fwL_set]
          simp (disch := omega) [w64]
          repeat (refine And.intro (by omega) ?_)
          exact ⟨j + 1, by omega, by omega, Le.syn (by simp (disch := omega) [leS, hC, w64])⟩
    · obtain rfl : i = n := by omega
      simp
      repeat (refine And.intro (by omega) ?_)
      simp [leS, fwSt]
set_option maxRecDepth 10000 in
theorem solveB {n : Nat} {f : Lu} (h : LuW n f) (ho : ∀ i, i < n → gt f.ord i < n) (b : List Rat) (hb : b.length = n) (wb : Wd 4403 b) (hX : ∀ c, c < n → qw 20000000 (solX f b n c)) {C : Ctx} (hC : C.fx = []) {Φ : SV → Prop}
    (hQ : CodeJ Tryz.prog C (dropC 6 luSolveBody) (fwSt f n (bwL (ofL f.both) (fwd (ofL f.both) (bo f b)) n n)) (retQ Tryz.prog [.tmp 4, .tmp 5] Φ)) :
    CodeJ Tryz.prog C (dropC 5 luSolveBody) (fwSt f n (fwL (ofL f.both) (bo f b) n n)) (retQ Tryz.prog [.tmp 4, .tmp 5] Φ) := by
  have n6 := h.n6
  have bl := h.b.l
  have hM : ∀ i j, i < n → j < n → qw 34375000 (ofL f.both i j) := fun i j hi hj => h.b.q i j hi hj
  have hbo : ∀ i, i < n → qw 4403 (bo f b i) := fun i hi => wb _ (by rw [hb]; exact ho i hi)
  have hy : ∀ i, i < n → qw 2200010000 (fwd (ofL f.both) (bo f b) i) := fun i hi => qw_mono (qw_fwd hM hbo i hi).2 (by have := pw_six (n := i) (by omega); omega)
  unfold solX at hX
  rw [← bwL_zero]
  generalize hY : fwd (ofL f.both) (bo f b) = y at *
  simp only [luSolveBody, Tryz.f59, Option.getD_some, dropC_succ, dropC_zero] at hQ ⊢
  refine CodeJ.cutAt 1 (fun st => st = fwSt f n (bwL (ofL f.both) y n n)) ?_ (fun st e => e ▸ hQ)
  simp only [takeC_succ, takeC_zero, fwSt]
  simp
  refine CodeJ.loopL (ι := Nat × Nat) (fun ⟨d, i1⟩ => ⟨164, [(0, .rop (luV f) 0), (6, iv n), (7, .view 0 0 n), (10, iv ((i1 : Int) - 1))], [some ⟨4, (bwL (ofL f.both) y n d).map rsv, false⟩]⟩)
    (fun ⟨d, i1⟩ => i1 + d = n) (fun ⟨d, i1⟩ => i1) (0, n) (by simp) ?_ ?_
  · simp (disch := omega) [leS, hC, w64]
  · rintro ⟨d, i1⟩ hd
    cases i1 with
    | zero =>
      obtain rfl : d = n := by simpa using hd
      simp [leS, fwSt]
    | succ i =>
      have hlt : i < n := by have : i + 1 + d = n := hd; omega
      have hid : i + d + 1 = n := by have : i + 1 + d = n := hd; omega
      have ei : ((i + 1 : Nat) : Int) - 1 = i := by omega
      simp only [ei]
      simp (disch := omega) [w64]
      repeat (refine And.intro (by omega) ?_)
      have lr := lget_rlv (l := f.both) (i := i) (by omega)
      have wr := h.b.r i hlt
      refine CodeJ.loopL (ι := Nat) (fun j => ⟨164, [(0, .rop (luV f) 0), (6, iv n), (7, .view 0 0 n), (10, iv i), (11, iv j)], [some ⟨4, ((bwL (ofL f.both) y n d).set i (accB (ofL f.both) y n i j)).map rsv, false⟩]⟩)
        (fun j => i + 1 ≤ j ∧ j ≤ n) (fun j => n - j) (i + 1) (by simp; omega) ?_ ?_
      · simp (disch := omega) [leS, hC, w64, accB_zero, bwL_self hid, -List.map_set]
      · rintro j ⟨hj1, hj2⟩
        have xi : lget (((bwL (ofL f.both) y n d).set i (accB (ofL f.both) y n i j)).map rsv) i = rsv (accB (ofL f.both) y n i j) := by
          rw [lget_r (by simpa using hlt), gt_set (by simpa using hlt), if_pos rfl]
        have q3 := qw_accB hM (hy i hlt) hX hlt j hj1 hj2
        by_cases hjn : j < n
        · have lm := lget_r (l := gt f.both i) (i := j) (by omega)
          have xj : lget (((bwL (ofL f.both) y n d).set i (accB (ofL f.both) y n i j)).map rsv) j = rsv (bwd (ofL f.both) y n j) := by
            rw [lget_r (by simpa using hjn), gt_set (by simpa using hjn), if_neg (by omega), gt_bwL hjn, if_pos (by omega)]
          have q1 := h.b.q i j hlt hjn
          have q2 := hX j hjn
          have q5 := qw_mul q1 q2 (by omega)
          have e1 : lset (((bwL (ofL f.both) y n d).set i (accB (ofL f.both) y n i j)).map rsv) i (rsv (accB (ofL f.both) y n i j - gt (gt f.both i) j * bwd (ofL f.both) y n j)) = ((bwL (ofL f.both) y n d).set i (accB (ofL f.both) y n i (j + 1))).map rsv := by
            rw [lset_eq, ← List.map_set, accB_succ _ _ (by omega), List.set_set]; rfl
          simp (disch := omega) [hjn, -List.map_set]
          repeat (refine And.intro (by omega) ?_)
          refine CodeJ.draw (.qs [0, 1, 2, 3, 4, 5, 6, 7, 8, 9, 10, 11, 12, 13, 14, 15, 16, 17, 18, 19] <| .l 20 [] <| .l 21 [] <| .qs [22] <| .l 23 [0] <| .nil) (by kernel_rfl) (by kernel_rfl) (by simp) ?_
          simp (disch := omega) [hjn, hlt, lr, wr, lm, xi, xj, bl, -List.map_set]
          repeat (refine And.intro (by omega) ?_)
          refine callS (qMul_ok _ _ (qok_of q1 (by omega)) (qok_of q2 (by omega))) (by simp) ?_
          simp [-List.map_set]
          refine callS (qSub_ok _ _ (qok_of q3 (by omega)) (qok_of q5 (by omega))) (by simp) ?_
          simp (disch := omega) [xi, e1, w64, -List.map_set]
          repeat (refine And.intro (by omega) ?_)
          exact ⟨j + 1, by omega, by omega, Le.syn (by simp (disch := omega) [leS, hC, w64, -List.map_set])⟩
        · obtain rfl : n = j := by omega
          have lm := lget_r (l := gt f.both i) (i := i) (by omega)
          have q1 := h.b.q i i hlt hlt
          have e2 : lset (((bwL (ofL f.both) y n d).set i (accB (ofL f.both) y n i n)).map rsv) i (rsv (accB (ofL f.both) y n i n / gt (gt f.both i) i)) = (bwL (ofL f.both) y n (d + 1)).map rsv := by
            rw [lset_eq, ← List.map_set, List.set_set, show gt (gt f.both i) i = ofL f.both i i from rfl, accB_end _ _ hlt, bwL_set hid]
          simp (disch := omega) [-List.map_set]
          repeat (refine And.intro (by omega) ?_)
          refine CodeJ.draw (.qs [0, 1, 2, 3, 4, 5, 6, 7, 8, 9, 10, 11, 12, 13, 14, 15] <| .l 16 [] <| .qs [17, 18, 19, 20] <| .l 21 [0] <| .nil) (by kernel_rfl) (by kernel_rfl) (by simp) ?_
          simp (disch := omega) [hlt, lr, wr, lm, xi, bl, -List.map_set]
          repeat (refine And.intro (by omega) ?_)
          refine callS (qQuo_ok _ _ (qok_of q3 (by omega)) (qok_of q1 (by omega))) (by simp) ?_
          simp (disch := omega) [xi, e2, w64, -List.map_set]
          repeat (refine And.intro (by omega) ?_)
          exact ⟨d + 1, i, by omega, by omega, Le.syn (by simp (disch := omega) [leS, hC, w64])⟩
end Go.Proofs

