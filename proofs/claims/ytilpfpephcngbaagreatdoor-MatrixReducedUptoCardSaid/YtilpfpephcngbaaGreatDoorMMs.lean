/- What the document's functions that reduce a table return. A text of the prover's own. -/
import Derived.Test.YtilpfpephcngbaaGreatDoorMMr
import Derived.Test.YtilpfpephcngbaaGreatDoorMVf
namespace Go.Proofs
open Go.Sv Go Go.Tb Go.Pl Go.Ut Go.Mx
set_option maxRecDepth 10000 in
theorem rWithout_ok (a b : List Rat) (y : Rat) (hl : b.length = a.length) (hn : a.length ≤ 1048576) (ha : ∀ j, j < a.length → qok (gt a j)) (hb : ∀ j, j < a.length → qok (gt b j)) (hy : qok y) (hp : ∀ j, j < a.length → qok (gt b j * y)) :
    PureF Tryz.prog 150 [.ro (a.map qsv), .ro (b.map qsv), qsv y] (.ro ((subR a b y).map qsv)) := by
  refine pure_enter Tryz.func150 rfl (by simp) (fun C hC => ?_)
  simp
  refine CodeJ.nil 7 4 rfl ?_
  refine CodeJ.loopL (ι := Nat) (fun i => ⟨34, [(0, .ro (a.map qsv)), (1, .ro (b.map qsv)), (5, .ptr 0 0 0), (7, .view 1 0 i), (8, iv i)], [some ⟨4, [qsv y], false⟩, some ⟨4, ((subR a b y).take i).map qsv, false⟩]⟩)
    (fun i => i ≤ a.length) (fun i => a.length - i) 0 (by simp) ?_ ?_
  · simp [leS, hC]
  · rintro i hi
    by_cases hlt : i < a.length
    · have q1 := lget_q hlt
      have q2 := lget_q (show i < b.length by omega)
      simp (disch := omega) [hlt, hl]
      repeat (refine And.intro (by omega) ?_)
      refine CodeJ.drawZ (.d 6 <| .qs [0, 1, 2, 3, 4] <| .p 5 <| .b ( .l 7 [2] <| .nil )) (by kernel_rfl) (by kernel_rfl) (by simp) ?_
      simp (disch := omega) [hlt, hl, q1, q2]
      repeat (refine And.intro (by omega) ?_)
      refine callV (pMul_ok _ _ (hb i hlt) hy) (by simp) ?_
      simp (disch := omega) [hlt, hl, q1, q2]
      repeat (refine And.intro (by omega) ?_)
      refine CodeJ.drawZ (.d 6 <| .qs [0, 1, 2, 3, 4] <| .p 5 <| .b ( .l 7 [3] <| .nil )) (by kernel_rfl) (by kernel_rfl) (by simp) ?_
      simp (disch := omega) [hlt, hl, q1, q2]
      repeat (refine And.intro (by omega) ?_)
      refine callV (pSub_ok _ _ (ha i hlt) (hp i hlt)) (by simp) ?_
      simp (disch := omega) [hlt, hl, q1, q2, w64]
      repeat (refine And.intro (by omega) ?_)
      exact ⟨⟨by simp [hC], by omega⟩, i + 1, by omega, by omega, Le.syn (by simp (disch := omega) [leS, hC, w64, take1 qsv (show i < (subR a b y).length by simpa using hlt), gt_subR])⟩
    · obtain rfl : i = a.length := by omega
      have e : ((subR a b y).map qsv).take a.length = (subR a b y).map qsv := List.take_of_length_le (by simp)
      simp [e]
set_option maxRecDepth 10000 in
theorem rReduce_ok {m : List (List Rat)} {n w W k t c : Nat} (h : Tw n w W m) (hn : n ≤ 1048576) (hw : w ≤ 1048576) (h1 : 1 ≤ W) (h2 : W ≤ 1000000000) (hk : k < n) (ht : t < n) (hc : c < w) (hz : gt (gt m t) c ≠ 0) :
    PureF Tryz.prog 73 [.ro (m.map qlv), iv k, iv t, iv c] (.ro ((redStep m k t c).map qlv)) := by
  have hl := h.l
  have lt := lget_qlv (l := m) (i := t) (by omega)
  have lk := lget_qlv (l := m) (i := k) (by omega)
  have wt := h.r t ht
  have lc := lget_q (l := gt m t) (i := c) (by omega)
  have ow := one_w h ht hc h1
  refine pure_enter Tryz.func73 rfl (by simp) (fun C hC => ?_)
  simp (disch := omega) [hl, lt]
  repeat (refine And.intro (by omega) ?_)
  refine CodeJ.nil 10 4 rfl ?_
  simp
  refine CodeJ.loopL (ι := Nat) (fun i => ⟨76, [(0, .ro (m.map qlv)), (1, iv k), (2, iv t), (3, iv c), (9, .ro ((gt m t).map qsv)), (10, .view 0 0 i), (11, iv i)], [some ⟨4, ((oneR (gt m t) c).take i).map qsv, false⟩]⟩)
    (fun i => i ≤ w) (fun i => w - i) 0 (by simp) ?_ ?_
  · simp [leS, hC]
  · rintro i hi
    by_cases hlt : i < w
    · have q1 := lget_q (l := gt m t) (i := i) (by omega)
      simp (disch := omega) [hlt, wt]
      repeat (refine And.intro (by omega) ?_)
      refine CodeJ.drawZ (.d 9 <| .qs [0, 1, 2, 3, 4, 5, 6, 7] <| .p 8 <| .b ( .l 10 [1] <| .nil )) (by kernel_rfl) (by kernel_rfl) (by simp) ?_
      simp (disch := omega) [hlt, wt, q1, lc]
      repeat (refine And.intro (by omega) ?_)
      refine callV (pQuo_ok _ _ (qok_of (h.q t i ht hlt) (by omega)) (qok_of (h.q t c ht hc) (by omega)) hz) (by simp) ?_
      simp (disch := omega) [hlt, wt, w64]
      repeat (refine And.intro (by omega) ?_)
      have e := take1 qsv (l := oneR (gt m t) c) (i := i) (by simp; omega)
      rw [gt_oneR (by omega)] at e
      exact ⟨⟨by simp [hC], by omega⟩, i + 1, by omega, by omega, Le.syn (by simp (disch := omega) [leS, hC, w64, e])⟩
    · obtain rfl : i = w := by omega
      have e : ((oneR (gt m t) c).map qsv).take i = (oneR (gt m t) c).map qsv := List.take_of_length_le (by simp; omega)
      simp (disch := omega) [wt, e]
      repeat (refine And.intro (by omega) ?_)
      refine CodeJ.frz 0 rfl (by simp) ?_
      have sq : sbL 0 ((oneR (gt m t) c).map qsv) ((oneR (gt m t) c).map qsv) = (oneR (gt m t) c).map qsv := sbL_pure _ _ _ (by simp)
      simp [frzS, tset, e, sq]
      refine CodeJ.nil 13 1 rfl ?_
      simp
      refine CodeJ.loopL (ι := Nat) (fun j => ⟨76, [(0, .ro (m.map qlv)), (1, iv k), (2, iv t), (3, iv c), (10, .ro ((oneR (gt m t) c).map qsv)), (13, .view 1 0 j), (14, iv j)], [some ⟨4, (oneR (gt m t) c).map qsv, true⟩, some ⟨1, ((redStep m k t c).take j).map qlv, false⟩]⟩)
        (fun j => j ≤ n) (fun j => n - j) 0 (by simp) ?_ ?_
      · simp [leS, hC]; omega
      · rintro j hj
        by_cases hjn : j < n
        · have lj := lget_qlv (l := m) (i := j) (by omega)
          have wk := h.r k hk
          have wj := h.r j hjn
          have e1 := take1 qlv (l := redStep m k t c) (i := j) (by simp; omega)
          rw [gt_redStep (by omega)] at e1
          by_cases jk : j = k
          · subst jk
            rw [if_pos rfl] at e1
            by_cases jt : j = t
            · subst jt
              simp (disch := omega) [hjn, hl, lj, w64]
              repeat (refine And.intro (by omega) ?_)
              exact ⟨⟨by simp [hC], by omega⟩, j + 1, by omega, by omega, Le.syn (by simp (disch := omega) [leS, hC, w64, e1])⟩
            · have jt' : ¬ (j : Int) = t := by omega
              simp (disch := omega) [hjn, hl, lj, w64, jt']
              repeat (refine And.intro (by omega) ?_)
              exact ⟨⟨by simp [hC], by omega⟩, j + 1, by omega, by omega, Le.syn (by simp (disch := omega) [leS, hC, w64, e1])⟩
          · have jk' : ¬ (j : Int) = k := by omega
            have sw := swp_w h hk ht hjn
            rw [if_neg jk] at e1
            have lc2 := lget_q (l := swp m k t j) (i := c) (by omega)
            have wo := rWithout_ok (swp m k t j) (oneR (gt m t) c) (gt (swp m k t j) c) (by omega) (by omega) (fun x hx => qok_of (sw.2 x (by omega)) (by omega)) (fun x hx => qok_of (ow.2 x (by omega)) (by omega)) (qok_of (sw.2 c hc) (by omega))
              (fun x hx => qok_of (qw_mul (ow.2 x (by omega)) (sw.2 c hc) (by omega)) (by omega))
            by_cases jt : j = t
            · subst jt
              have es : swp m k j j = gt m k := by unfold swp; rw [if_neg jk, if_pos rfl]
              rw [es] at lc2 wo e1
              simp (disch := omega) [hjn, hl, lj, lk, w64, jk', lc2]
              repeat (refine And.intro (by omega) ?_)
              refine callS (wo) (by simp) ?_
              simp (disch := omega) [hjn, w64]
              repeat (refine And.intro (by omega) ?_)
              exact ⟨⟨by simp [hC], by omega⟩, j + 1, by omega, by omega, Le.syn (by simp (disch := omega) [leS, hC, w64, e1])⟩
            · have jt' : ¬ (j : Int) = t := by omega
              have es : swp m k t j = gt m j := by unfold swp; rw [if_neg jk, if_neg jt]
              rw [es] at lc2 wo e1
              simp (disch := omega) [hjn, hl, lj, w64, jk', jt', lc2]
              repeat (refine And.intro (by omega) ?_)
              refine callS (wo) (by simp) ?_
              simp (disch := omega) [hjn, w64]
              repeat (refine And.intro (by omega) ?_)
              exact ⟨⟨by simp [hC], by omega⟩, j + 1, by omega, by omega, Le.syn (by simp (disch := omega) [leS, hC, w64, e1])⟩
        · obtain rfl : j = n := by omega
          have e1 : ((redStep m k t c).map qlv).take j = (redStep m k t c).map qlv := List.take_of_length_le (by simp; omega)
          simp (disch := omega) [hl, e1]
          repeat (refine And.intro (by omega) ?_)
def upP (m : List (List Rat)) (c n j : Nat) (x : Int) : Prop := (x = -1 ∧ ∀ i, j ≤ i → i < n → gt (gt m i) c = 0) ∨ ∃ t : Nat, x = t ∧ j ≤ t ∧ t < n ∧ gt (gt m t) c ≠ 0 ∧ ∀ i, j ≤ i → i < t → gt (gt m i) c = 0
def natV (i : Nat) : SV := iv i
@[simp] theorem natV_iv (i : Nat) : natV i = iv i := rfl
set_option maxRecDepth 10000 in
theorem rReduced_ok (a : List (List Rat)) (n w : Nat) (h : Tw n w 2200 a) (hn : n ≤ 6) (hw : w ≤ 40) (he : wide a = w) : PureF Tryz.prog 17 [.ro (a.map qlv)] (.tup [.ro ((redAt a w).1.map qlv), .ro ((redAt a w).2.map natV)]) := by
  have hl := h.l
  have gw := rWide_ok a (by omega)
  rw [he] at gw
  refine pure_enter Tryz.func17 rfl (by simp) (fun C hC => ?_)
  simp (disch := omega) [hl]
  repeat (refine And.intro (by omega) ?_)
  refine callS (gw) (by simp) ?_
  simp (disch := omega) [hl]
  repeat (refine And.intro (by omega) ?_)
  refine CodeJ.frz 0 rfl (by simp) ?_
  have sq : sbL 0 (a.map qlv) (a.map qlv) = a.map qlv := sbL_pure _ _ _ (by simp)
  simp [frzS, tset, sq]
  refine CodeJ.nil 5 1 rfl ?_
  simp
  refine CodeJ.loopL (ι := Nat) (fun c => ⟨63, [(4, .ro ((redAt a c).1.map qlv)), (5, .view 1 0 (redAt a c).2.length), (6, iv w), (7, iv c)], [some ⟨1, a.map qlv, true⟩, some ⟨1, (redAt a c).2.map natV, false⟩]⟩)
    (fun c => c ≤ w) (fun c => w - c) 0 (by simp) ?_ ?_
  · simp [leS, hC, redAt, ← hl, List.take_of_length_le]
  · rintro c hc
    obtain ⟨tw, le⟩ := redAt_ok h c hc
    have nx : redAt a (c + 1) = redS (redAt a c) c := rfl
    have full := redAt_full (a := a) (c := c)
    generalize hs : redAt a c = s at *
    have sl := tw.l
    have tk : (s.2.map natV).take s.2.length = s.2.map natV := List.take_of_length_le (by simp)
    have p5 := pow5_le le hn
    have p1 : 1 ≤ 2200 * 5 ^ s.2.length := by have := Nat.pow_pos (n := s.2.length) (show 0 < 5 by omega); omega
    by_cases hcw : c < w
    · by_cases hf : s.2.length < n
      · simp (disch := omega) [hcw, hf, sl]
        repeat (refine And.intro (by omega) ?_)
        refine CodeJ.loopL (ι := Nat × Int) (fun ⟨j, x⟩ => ⟨63, [(4, .ro (s.1.map qlv)), (5, .view 1 0 s.2.length), (6, iv w), (7, iv c), (8, iv s.2.length), (9, iv x), (10, iv ((j : Int) - 1))], [some ⟨1, a.map qlv, true⟩, some ⟨1, s.2.map natV, false⟩]⟩)
          (fun ⟨j, x⟩ => s.2.length ≤ j ∧ j ≤ n ∧ upP s.1 c n j x) (fun ⟨j, x⟩ => j) (n, -1) ⟨by omega, by omega, .inl ⟨rfl, fun i h1 h2 => by omega⟩⟩ ?_ ?_
        · simp (disch := omega) [leS, hC, w64]
        · rintro ⟨j, x⟩ ⟨h1, h2, h3⟩
          by_cases hj : s.2.length < j
          · obtain ⟨j, rfl⟩ : ∃ i, j = i + 1 := ⟨j - 1, by omega⟩
            have e1 : ((j + 1 : Nat) : Int) - 1 = j := by omega
            have hj' : s.2.length ≤ j := by omega
            have lj := lget_qlv (l := s.1) (i := j) (by omega)
            have wj := tw.r j (by omega)
            have lc := lget_q (l := gt s.1 j) (i := c) (by omega)
            simp only [e1]
            simp (disch := omega) [hj', lj, sl, lc]
            repeat (refine And.intro (by omega) ?_)
            refine callS (pSign_ok (gt (gt s.1 j) c)) (by simp) ?_
            simp (disch := omega) [w64, Int.sign_eq_zero_iff_zero, Rat.num_eq_zero]
            repeat (refine And.intro (by omega) ?_)
            refine ⟨fun z => ⟨j, j, ⟨by omega, by omega, .inr ⟨j, rfl, by omega, by omega, z, fun i g1 g2 => by omega⟩⟩, by omega, Le.syn (by simp (disch := omega) [leS, hC, w64])⟩, fun z => ⟨j, x, ⟨by omega, by omega, ?_⟩, by omega, Le.syn (by simp (disch := omega) [leS, hC, w64])⟩⟩
            rcases h3 with ⟨x1, x2⟩ | ⟨t, rfl, t1, t2, t3, t4⟩
            · refine .inl ⟨x1, fun i g1 g2 => ?_⟩
              by_cases ij : i = j
              · rw [ij]; exact z
              · exact x2 i (by omega) g2
            · refine .inr ⟨t, rfl, by omega, t2, t3, fun i g1 g2 => ?_⟩
              by_cases ij : i = j
              · rw [ij]; exact z
              · exact t4 i (by omega) g2
          · obtain rfl : j = s.2.length := by omega
            have e1 : ¬ (s.2.length : Int) ≤ (s.2.length : Int) - 1 := by omega
            rcases h3 with ⟨rfl, x2⟩ | ⟨t, rfl, t1, t2, t3, t4⟩
            · rw [redS_none (fun i g1 g2 => x2 i g1 (by omega))] at nx
              simp (disch := omega) [e1]
              repeat (refine And.intro (by omega) ?_)
              exact ⟨c + 1, by omega, by omega, by rw [nx]; exact Le.syn (by simp (disch := omega) [leS, hC, w64])⟩
            · have e2 : ¬ ((t : Int) < 0) := by omega
              rw [redS_piv (t := t) (by omega) ⟨t1, by omega, t3, t4⟩] at nx
              simp (disch := omega) [e1, e2]
              repeat (refine And.intro (by omega) ?_)
              refine callS (rReduce_ok tw (by omega) (by omega) p1 (by omega) hf t2 hcw t3) (by simp) ?_
              simp (disch := omega) [w64]
              repeat (refine And.intro (by omega) ?_)
              refine ⟨⟨by simp [hC], by omega⟩, c + 1, by omega, by omega, ?_⟩
              rw [nx]
              exact Le.syn (by simp (disch := omega) [leS, hC, w64])
      · have e := full (by omega) (w - c)
        rw [show c + (w - c) = w by omega] at e
        rw [e]
        simp (disch := omega) [hcw, hf, sl, tk]
        repeat (refine And.intro (by omega) ?_)
    · obtain rfl : c = w := by omega
      rw [hs]
      simp [tk]
end Go.Proofs

