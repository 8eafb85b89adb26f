/- A table taken apart and its other columns, as lists; long numbers out of their own texts. A text of the prover's own. -/
import Derived.Test.YtnimjdcaajmfcaaGreatDoorPYe
import Derived.Test.YtnimjdcaajmfcaaGreatDoorPQt
import Derived.Test.YtnimjdcaajmfcaaGreatDoorPDw
namespace Go.Dt
open Go Go.Sv Go.Pl Go.Proofs Go.Tb Go.Ut Go.Mx Go.Li
theorem gt_trL {a : List (List Rat)} {n i c : Nat} (hi : i < n) (hc : c < a.length) : gt (gt (trL a n) i) c = gt (gt a c) i := by
  unfold trL; rw [gt_range _ hi, gt_range _ hc]
theorem Tw.trL {n W : Nat} {a : List (List Rat)} (h : Tw n n W a) : Tw n n W (trL a n) where
  l := by simp [Dt.trL]
  r i hi := by unfold Dt.trL; rw [gt_range _ hi]; simp [h.l]
  q i j hi hj := by rw [gt_trL hi (by rw [h.l]; exact hj)]; exact h.q j i hj hi
theorem appL_eq {n W : Nat} {a : List (List Rat)} (h : Tw n n W a) {x p : List Rat} (hx : x.length = n) (hp : p.length = n) (hs : ∀ r, r < n → mulV n (ofL a) (gt x) r = gt p r) : appL a x = p := ext_gt' (by rw [appL_len, h.l, hp]) fun i hi => by
  rw [appL_len, h.l] at hi
  rw [gt_appL (by rw [h.l]; exact hi), hx]; exact hs i hi
theorem appL_tr {n W : Nat} {a : List (List Rat)} (h : Tw n n W a) {y q : List Rat} (hy : y.length = n) (hq : q.length = n) (hs : ∀ c, c < n → mulL n (ofL a) (gt y) c = gt q c) : appL (trL a n) y = q := appL_eq (Tw.trL h) hy hq fun r hr => by
  rw [← hs r hr]
  exact sumR_congr n fun c hc => by
    show gt (gt (Dt.trL a n) r) c * gt y c = gt y c * gt (gt a c) r
    rw [gt_trL hr (by rw [h.l]; exact hc), Rat.mul_comm]
theorem gt_putL {a : List (List Rat)} {col i : Nat} {x : List Rat} (hi : i < a.length) : gt (putL a col x) i = (gt a i).set col (gt x i) := by unfold putL; rw [gt_range _ hi]
theorem ofL_putL {n W : Nat} {a : List (List Rat)} (h : Tw n n W a) {col : Nat} {x : List Rat} {r c : Nat} (hr : r < n) (hc : c < n) : ofL (putL a col x) r c = setC (ofL a) col (gt x) r c := by
  show gt (gt (putL a col x) r) c = _
  rw [gt_putL (by rw [h.l]; exact hr), gt_set (by rw [h.r r hr]; exact hc)]
  unfold setC
  by_cases e : col = c
  · rw [if_pos e, if_pos e.symm]
  · rw [if_neg e, if_neg (fun q => e q.symm)]; rfl
theorem Tw.putL {n W : Nat} {a : List (List Rat)} (h : Tw n n W a) {col : Nat} {x : List Rat} (hx : x.length = n) (wx : Wd W x) : Tw n n W (putL a col x) where
  l := by simp [Dt.putL, h.l]
  r i hi := by rw [gt_putL (by rw [h.l]; exact hi)]; simp [h.r i hi]
  q i j hi hj := by
    rw [gt_putL (by rw [h.l]; exact hi), gt_set (by rw [h.r i hi]; exact hj)]
    split
    · exact wx i (by omega)
    · exact h.q i j hi hj
theorem LuOK.nz {n : Nat} {A A0 : Mat} {f : Lu} (h : LuOK n A f A0) : Dt.det n A ≠ 0 := by
  rw [det_congr h.s]; exact h.dne (Nat.le_refl _)
theorem gt_apL {α : Type} [Inhabited α] {l : List α} {e : α} {i : Nat} (h : i < l.length) : gt (l ++ [e]) i = gt l i := by
  rw [← gt_get (by simp; omega), ← gt_get h, List.getElem_append_left]
theorem gt_apR {α : Type} [Inhabited α] {l : List α} {e : α} : gt (l ++ [e]) l.length = e := by
  rw [← gt_get (by simp)]; simp
/-- another column in the place of one -/
theorem LuOK.put {n : Nat} {a : List (List Rat)} {A0 : Mat} {f : Lu} (h : LuOK n (ofL a) f A0) (t : Tw n n 4403 a) {col : Nat} (hc : col < n) {x w : List Rat} (hx : x.length = n) (wx : Wd 4403 x) (hw : w.length = n) (ww : Wd 17232362 w)
    (hs : ∀ r, r < n → mulV n (ofL a) (gt w) r = gt x r) (hl : f.later.length ≤ 9) :
    Dt.det n (ofL (putL a col x)) = gt w col * Dt.det n (ofL a) ∧ (gt w col ≠ 0 → LuOK n (ofL (putL a col x)) { f with later := f.later ++ [⟨col, w⟩] } A0) := by
  have e0 : Same n (ofL (putL a col x)) (etaM n (ofL a) col (gt w)) := fun r c hr hc' => by
    rw [ofL_putL t hr hc']; unfold etaM setC
    split
    · exact (hs r hr).symm
    · rfl
  refine ⟨by rw [det_congr e0, eta_det hc], fun hz => ?_⟩
  have tk : ∀ k, k ≤ f.later.length → tabK n A0 { f with later := f.later ++ [⟨col, w⟩] } k = tabK n A0 f k := fun k hk => by
    unfold tabK
    simp only
    rw [List.take_append_of_le_length hk]
  have te : tabK n A0 { f with later := f.later ++ [⟨col, w⟩] } (f.later.length + 1) = etaM n (tabK n A0 f f.later.length) col (gt w) := by
    rw [tabK_succ (by simp), tk _ (Nat.le_refl _)]
    simp only [gt_apR]
  have es : Same n (etaM n (ofL a) col (gt w)) (etaM n (tabK n A0 f f.later.length) col (gt w)) := fun r c hr hc' => by
    unfold etaM setC
    split
    · exact h.s.mulV _ hr
    · exact h.s r c hr hc'
  have sa : Same n (ofL (putL a col x)) (tabK n A0 { f with later := f.later ++ [⟨col, w⟩] } (f.later.length + 1)) := fun r c hr hc' => by
    rw [te, e0 r c hr hc']; exact es r c hr hc'
  refine ⟨⟨h.w.n6, h.w.o, h.w.b, by simp; omega, fun i hi => ?_⟩, h.i, fun k hk => ?_, by simpa using sa, fun k hk r c hr hc' => ?_⟩
  · by_cases e : i < f.later.length
    · rw [gt_apL e]; exact h.w.e i e
    · obtain rfl : i = f.later.length := by simp at hi; omega
      rw [gt_apR]; exact ⟨hc, hw, fun i hi => qw_mono (ww i hi) (by omega)⟩
  · by_cases e : k < f.later.length
    · simp only [gt_apL e]; exact h.z k e
    · obtain rfl : k = f.later.length := by simp at hk; omega
      simp only [gt_apR]; exact hz
  · by_cases e : k ≤ f.later.length
    · rw [tk k e]; exact h.q k e r c hr hc'
    · obtain rfl : k = f.later.length + 1 := by simp at hk; omega
      rw [← sa r c hr hc']
      exact (Tw.putL t hx wx).q r c hr hc'
theorem qw_detL {n : Nat} {a : List (List Rat)} (t : Tw n n 4403 a) (n6 : n ≤ 6) : Proofs.qw 8616181 (Dt.det n (ofL a)) :=
  qw_mono (qw_det (by omega) fun r c hr hc => t.q r c hr hc) (dw_six n6)
theorem qtxt_szX {q : Rat} (h : Proofs.qw 19000000 q) : (qtxt q).size ≤ 380000010 := by
  have h1 := txt_sz h.1
  have h2 := txt_sz h.2
  unfold qtxt
  split
  · omega
  · rw [size_app, size_app]
    have : (⟨#[47]⟩ : ByteArray).size = 1 := rfl
    omega
end Go.Dt
namespace Go.Proofs
open Go.Sv Go Go.Tb Go.Pl Go.Ut Go.Li Go.Dt
theorem rSaidX_ok (q : Rat) (h : qw 19000000 q) : PureF Tryz.prog 81 [.val (.string (qtxt q))] (.tup [qsv q, fsv 0 (-1)]) := by
  have hz := qtxt_szX h
  have g := pqread_ok (qtxt q) ((qtxt q).size + 1) (by omega) (by omega) (by omega)
  rw [qrd_txt q (by omega)] at g
  rw [show outP (q, 0, 0) = .tup [qsv q, fsv 0 (-1)] by simp [outP, fsv]] at g
  refine pure_enter Tryz.func81 rfl (by simp) (fun C hC => ?_)
  simp (disch := omega) [w64]
  repeat (refine And.intro (by omega) ?_)
  refine callS (g) (by simp) ?_
  simp [fsv]
set_option maxRecDepth 10000 in
/-- numbers out of their own texts -/
theorem rSaidY_ok (l : List Rat) (hl : l.length ≤ 1048576) (h : Wd 19000000 l) : PureF Tryz.prog 60 [.ro ((txts l).map strv)] (.tup [.ro (l.map qsv), .val (.bool true)]) := by
  have hz : (txts l).length = l.length := by simp
  refine pure_enter Tryz.func60 rfl (by simp) (fun C hC => ?_)
  simp
  refine CodeJ.nil 4 4 rfl ?_
  refine CodeJ.loopL (ι := Nat × List Rat) (fun ⟨i, xs⟩ => ⟨30, [(0, .ro ((txts l).map strv)), (4, .view 0 0 xs.length), (5, iv i)], [some ⟨4, xs.map qsv, false⟩]⟩)
    (fun ⟨i, xs⟩ => i ≤ l.length ∧ xs = l.take i) (fun ⟨i, xs⟩ => l.length - i) (0, []) (by simp) ?_ ?_
  · simp [leS, hC]
  · rintro ⟨i, xs⟩ ⟨hi, hx⟩
    have hxl : xs.length = i := by rw [hx]; simp; omega
    by_cases hlt : i < l.length
    · have e : gt (txts l) i = qtxt (gt l i) := by unfold txts; rw [gt_map _ hlt]
      have e2 : lget ((txts l).map strv) i = .val (.string (qtxt (gt l i))) := by rw [lget_str (by omega), e]; rfl
      have e3 := take_gt hlt
      rw [← hx] at e3
      simp (disch := omega) [hlt, e2]
      repeat (refine And.intro (by omega) ?_)
      refine callS (rSaidX_ok (gt l i) (h i hlt)) (by simp) ?_
      simp (disch := omega) [fsv, w64]
      repeat (refine And.intro (by omega) ?_)
      exact ⟨⟨by simp [hC], by omega⟩, i + 1, xs ++ [gt l i], ⟨by omega, e3.symm⟩, by omega, Le.syn (by simp (disch := omega) [leS, hC, w64])⟩
    · obtain rfl : i = l.length := by omega
      rw [List.take_of_length_le (by simp)] at hx
      simp [hx, List.take_of_length_le]
set_option maxRecDepth 10000 in
theorem rSameRowF_ok (a b : List Rat) {k : Nat} (hk : k ≤ 10000000000) (ha : Wd k a) (hb : Wd k b) (na : a.length ≤ 1048576) (nb : b.length ≤ 1048576) : PureF Tryz.prog 62 [.ro (a.map qsv), .ro (b.map qsv)] (.val (.bool (decide (a = b)))) := by
  refine pure_enter Tryz.func62 rfl (by simp) (fun C hC => ?_)
  simp
  by_cases h0 : a.length = b.length
  · refine ⟨fun _ => by omega, fun _ => ?_⟩
    refine CodeJ.loopL (ι := Nat) (fun i => ⟨29, [(0, .ro (a.map qsv)), (1, .ro (b.map qsv)), (5, iv i)], []⟩)
      (fun i => i ≤ a.length ∧ ∀ k, k < i → gt a k = gt b k) (fun i => a.length - i) 0 ?_ ?_ ?_
    · simp
    · simp [leS, hC]
    · rintro i ⟨hi, hk⟩
      by_cases hlt : i < a.length
      · have q1 := ha i hlt
        have q2 := hb i (by omega)
        simp (disch := omega) [hlt, lget_q]
        repeat (refine And.intro (by omega) ?_)
        refine CodeJ.draw (.qs [0, 1, 2, 3, 4, 5, 6, 7] <| .l 8 [] <| .qs [9] <| .nil) (by kernel_rfl) (by kernel_rfl) (by simp) ?_
        simp (disch := omega) [hlt, lget_q]
        repeat (refine And.intro (by omega) ?_)
        refine callS (cmpP _ _ (qok_of q1 (by omega)) (qok_of q2 (by omega))) (by simp) ?_
        simp (disch := omega) [w64]
        repeat (refine And.intro (by omega) ?_)
        refine ⟨fun h e => h (by rw [e]), fun h => ⟨i + 1, ⟨by omega, step_lt hk h⟩, by omega, Le.syn (by simp (disch := omega) [leS, hC, w64])⟩⟩
      · obtain rfl : i = a.length := by omega
        have : a = b := ext_gt' h0 hk
        simp [this]
  · have : ¬ a = b := fun e => h0 (by rw [e])
    simp [this]
    omega
end Go.Proofs

