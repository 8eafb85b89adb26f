/- A fraction's own text is read back: as a plain law; what the document's readers of texts make of such texts. A text of the prover's own. -/
import Derived.Test.YtilpfpephcngbaaGreatDoorORt
import Derived.Test.YtilpfpephcngbaaGreatDoorOUt
import Derived.Test.YtilpfpephcngbaaGreatDoorOMt
namespace Go.Proofs
open Go.Sv Go Go.Pl
theorem byt_pre (P X : ByteArray) (i : Nat) : byt (P ++ X) (P.size + i) = byt X i := by
  unfold byt; rw [sget_app, if_neg (by omega), show P.size + i - P.size = i by omega]
theorem byt_in {P X : ByteArray} {i : Nat} (h : i < P.size) : byt (P ++ X) i = byt P i := by
  unfold byt; rw [sget_app, if_pos h]
theorem dig_pre (P X : ByteArray) (i : Nat) : digAt (P ++ X) (P.size + i) ↔ digAt X i := by
  unfold digAt; rw [byt_pre, size_app]
  exact and_congr ⟨fun h => by omega, fun h => by omega⟩ Iff.rfl
theorem dend_pre (P X : ByteArray) (a : Nat) : dend (P ++ X) (P.size + a) = P.size + dend X a := by
  have h0 := dend_ge X a
  refine dend_eq (by omega) (fun i h1 h2 => ?_) (fun h => dend_not X a ((dig_pre _ _ _).1 h))
  obtain ⟨k, rfl⟩ : ∃ k, i = P.size + k := ⟨i - P.size, by omega⟩
  exact (dig_pre _ _ _).2 (dend_dig (a := a) (by omega) (by omega))
theorem nv_pre (P X : ByteArray) (a : Nat) : ∀ k, nv (P ++ X) (P.size + a) k = nv X a k
  | 0 => rfl
  | k + 1 => by
    simp only [nv]
    rw [nv_pre P X a k, Nat.add_assoc, byt_pre]
theorem isAt_pre (P X : ByteArray) (i c : Nat) : isAt (P ++ X) (P.size + i) c ↔ isAt X i c := by
  unfold isAt; rw [byt_pre, size_app]
  exact and_congr ⟨fun h => by omega, fun h => by omega⟩ Iff.rfl
/-- digits, and what is none -/
theorem dend_dig0 {D T : ByteArray} (hD : ∀ i, i < D.size → digAt D i) (hT : ¬ digAt T 0) : dend (D ++ T) 0 = D.size := by
  refine dend_eq (by omega) (fun i _ h2 => ?_) ?_
  · refine ⟨by rw [size_app]; omega, ?_⟩
    rw [byt_in h2]; exact (hD i h2).2
  · have := dig_pre D T 0
    rw [Nat.add_zero] at this
    exact fun h => hT (this.1 h)
/-- a sign, or none -/
def Sgn (P : ByteArray) (b : Bool) : Prop := P = if b = true then sb [45] else sb []
theorem sgn_at {P D T : ByteArray} {b : Bool} (hP : Sgn P b) (hD : ∀ i, i < D.size → digAt D i) (h0 : 0 < D.size) : sgnAt (P ++ (D ++ T)) = P.size ∧ (minus (P ++ (D ++ T)) ↔ b = true) := by
  unfold Sgn at hP
  cases b with
  | true =>
    obtain rfl : P = sb [45] := hP
    have hm : minus (sb [45] ++ (D ++ T)) := ⟨by rw [size_app, sb_size]; simp; omega, by rw [byt_in (by simp)]; rfl⟩
    refine ⟨?_, ⟨fun _ => rfl, fun _ => hm⟩⟩
    unfold sgnAt; rw [if_pos hm]; rfl
  | false =>
    obtain rfl : P = sb [] := hP
    have hm : ¬ minus (sb [] ++ (D ++ T)) := fun h => by
      have h1 := h.2
      have e := byt_pre (sb []) (D ++ T) 0
      rw [show (sb []).size + 0 = 0 from rfl, h1, byt_in h0] at e
      have := (hD 0 h0).2
      rw [← e] at this
      unfold isDig at this
      omega
    refine ⟨?_, ⟨fun h => absurd h hm, fun h => by cases h⟩⟩
    unfold sgnAt; rw [if_neg hm]; rfl
theorem not_dig_nil : ¬ digAt (sb []) 0 := fun h => by have := h.1; simp at this
theorem app_nil (D : ByteArray) : D ++ sb [] = D := by
  apply ByteArray.ext
  rw [ByteArray.data_append]
  show D.data ++ #[] = D.data
  simp
theorem qrd_whole {P D : ByteArray} {b : Bool} {n m : Nat} (hP : Sgn P b) (hD : ∀ i, i < D.size → digAt D i) (hn : nv D 0 D.size = n) (h0 : 0 < D.size) (hm : (P ++ D).size ≤ m) : qrd m (P ++ D) = (Rat.divInt (if b = true then -(n : Int) else n) 1, 0, 0) := by
  have hs := sgn_at (T := sb []) hP hD h0
  have hd := dend_dig0 (T := sb []) hD not_dig_nil
  rw [app_nil] at hs hd
  have hz : (P ++ D).size = P.size + D.size := size_app _ _
  have hd' : dend (P ++ D) P.size = P.size + D.size := by
    have := dend_pre P D 0
    rwa [hd] at this
  have hv : nv (P ++ D) P.size D.size = n := by
    have := nv_pre P D 0 D.size
    rwa [hn] at this
  have ni : ∀ c, ¬ isAt (P ++ D) (P.size + D.size) c := fun c h => by have := h.1; omega
  unfold qrd
  rw [hs.1, hd', if_neg (by omega), if_neg (by omega), if_neg (ni 47), if_neg (ni 46), show P.size + D.size - P.size = D.size by omega, hv]
  unfold qtail
  rw [if_neg (ni 101), if_neg (by omega)]
  unfold sgnd
  by_cases hb : b = true
  · rw [if_pos (hs.2.2 hb), if_pos hb]; rfl
  · rw [if_neg (fun h => hb (hs.2.1 h)), if_neg hb]; rfl
theorem qrd_frac {P D E : ByteArray} {b : Bool} {n d m : Nat} (hP : Sgn P b) (hD : ∀ i, i < D.size → digAt D i) (hn : nv D 0 D.size = n) (h0 : 0 < D.size)
    (hE : ∀ i, i < E.size → digAt E i) (hd : nv E 0 E.size = d) (h1 : 0 < E.size) (hd0 : d ≠ 0) (hm : (P ++ (D ++ (sb [47] ++ E))).size ≤ m) : qrd m (P ++ (D ++ (sb [47] ++ E))) = (Rat.divInt (if b = true then -(n : Int) else n) d, 0, 0) := by
  have hT : ¬ digAt (sb [47] ++ E) 0 := fun h => by
    have h2 := h.2
    rw [byt_in (by simp)] at h2
    have e : byt (sb [47]) 0 = 47 := rfl
    rw [e] at h2
    unfold isDig at h2; omega
  have hs := sgn_at (T := sb [47] ++ E) hP hD h0
  have hde := dend_dig0 (T := sb [47] ++ E) hD hT
  generalize hS : P ++ (D ++ (sb [47] ++ E)) = s at *
  have hz : s.size = P.size + D.size + 1 + E.size := by rw [← hS, size_app, size_app, size_app, sb_size]; simp; omega
  have hd' : dend s P.size = P.size + D.size := by
    have := dend_pre P (D ++ (sb [47] ++ E)) 0
    rwa [hde, hS] at this
  have hv : nv s P.size D.size = n := by
    have := nv_pre P (D ++ (sb [47] ++ E)) 0 D.size
    rw [nv_app1 D _ _ (Nat.le_refl _), hn, hS] at this
    exact this
  have hi : isAt s (P.size + D.size) 47 := by
    rw [← hS]
    refine (isAt_pre _ _ _ _).2 ?_
    have := isAt_pre D (sb [47] ++ E) 0 47
    rw [Nat.add_zero] at this
    exact this.2 ⟨by rw [size_app, sb_size]; simp; omega, by rw [byt_in (by simp)]; rfl⟩
  have hE0 : dend E 0 = E.size := by
    have := dend_dig0 (T := sb []) hE not_dig_nil
    rwa [app_nil] at this
  have hd2 : dend s (P.size + D.size + 1) = s.size := by
    have e1 := dend_pre P (D ++ (sb [47] ++ E)) (D.size + 1)
    have e2 := dend_pre D (sb [47] ++ E) 1
    have e3 := dend_pre (sb [47]) E 0
    rw [show (sb [47]).size + 0 = 1 from rfl, hE0] at e3
    rw [e2, e3, hS, sb_size] at e1
    rw [show P.size + D.size + 1 = P.size + (D.size + 1) by omega, e1, hz]
    simp; omega
  have hv2 : nv s (P.size + D.size + 1) E.size = d := by
    have e1 := nv_pre P (D ++ (sb [47] ++ E)) (D.size + 1) E.size
    have e2 := nv_pre D (sb [47] ++ E) 1 E.size
    have e3 := nv_pre (sb [47]) E 0 E.size
    rw [show (sb [47]).size + 0 = 1 from rfl, hd] at e3
    rw [e2, e3, hS] at e1
    rw [show P.size + D.size + 1 = P.size + (D.size + 1) by omega, e1]
  unfold qrd
  rw [hs.1, hd', if_neg (by omega), if_neg (by omega), if_pos hi, hd2, if_neg (by omega), if_neg (by omega), show s.size - (P.size + D.size + 1) = E.size by omega, hv2, if_neg hd0, show P.size + D.size - P.size = D.size by omega, hv]
  unfold sgnd
  by_cases hb : b = true
  · rw [if_pos (hs.2.2 hb), if_pos hb]
  · rw [if_neg (fun h => hb (hs.2.1 h)), if_neg hb]
theorem txt_parts (x : Int) : ∃ P D, ∃ b : Bool, txt x = P ++ D ∧ Sgn P b ∧ (∀ i, i < D.size → digAt D i) ∧ 0 < D.size ∧ nv D 0 D.size = x.natAbs ∧ (if b = true then -(x.natAbs : Int) else (x.natAbs : Int)) = x := by
  have e : txt x = sb (txtL x) := rfl
  have hl := dig_lt (B := 10) (by omega) x.natAbs
  have hv := val_dig (B := 10) (by omega) x.natAbs
  rw [e]
  unfold txtL
  by_cases h0 : x = 0
  · subst h0
    exact ⟨sb [], sb [48], false, by rw [if_pos rfl, sb_app]; rfl, rfl, dig_one_at (d := 0) (by omega), by simp, rfl, rfl⟩
  · rw [if_neg h0]
    have hne : 0 < (dig 10 x.natAbs).length := by
      rw [List.length_pos_iff]; intro hn; rw [dig_eq_nil (by omega)] at hn; omega
    by_cases h1 : x < 0
    · exact ⟨sb [45], dtx (dig 10 x.natAbs), true, by rw [if_pos h1, ← sb_app]; rfl, rfl, dtx_dig hl, by rw [dtx_size]; exact hne, by rw [dtx_nv hl, hv], by rw [if_pos rfl]; omega⟩
    · exact ⟨sb [], dtx (dig 10 x.natAbs), false, by rw [if_neg h1, ← sb_app]; rfl, rfl, dtx_dig hl, by rw [dtx_size]; exact hne, by rw [dtx_nv hl, hv], by rw [if_neg (by simp)]; omega⟩
theorem txt_pos {d : Nat} (h : d ≠ 0) : ∃ D, txt (d : Int) = D ∧ (∀ i, i < D.size → digAt D i) ∧ 0 < D.size ∧ nv D 0 D.size = d := by
  have e : txt (d : Int) = sb (txtL d) := rfl
  have hl := dig_lt (B := 10) (by omega) d
  have hv := val_dig (B := 10) (by omega) d
  have hne : 0 < (dig 10 d).length := by
    rw [List.length_pos_iff]; intro hn; rw [dig_eq_nil (by omega)] at hn; omega
  refine ⟨dtx (dig 10 d), ?_, dtx_dig hl, by rw [dtx_size]; exact hne, by rw [dtx_nv hl, hv]⟩
  rw [e]
  unfold txtL
  rw [if_neg (by omega), if_neg (by omega)]; rfl
theorem app_assoc (a b c : ByteArray) : a ++ b ++ c = a ++ (b ++ c) := by
  apply ByteArray.ext
  simp [ByteArray.data_append]
/-- a fraction's own text says that fraction -/
theorem qrd_txt (q : Rat) {m : Nat} (hm : (qtxt q).size ≤ m) : qrd m (qtxt q) = (q, 0, 0) := by
  obtain ⟨P, D, b, e1, e2, e3, e4, e5, e6⟩ := txt_parts q.num
  unfold qtxt at hm ⊢
  by_cases h : q.den = 1
  · rw [if_pos h, e1] at hm ⊢
    rw [qrd_whole e2 e3 e5 e4 hm, e6]
    have := Rat.num_divInt_den q
    rw [h] at this
    rw [show ((1 : Nat) : Int) = 1 from rfl] at this
    rw [this]
  · obtain ⟨E, f1, f2, f3, f4⟩ := txt_pos q.den_nz
    rw [if_neg h, e1, f1, show (⟨#[47]⟩ : ByteArray) = sb [47] from rfl, app_assoc, app_assoc] at hm ⊢
    rw [qrd_frac e2 e3 e5 e4 f2 f4 f3 q.den_nz hm, e6, Rat.num_divInt_den]
end Go.Proofs
namespace Go.Li
open Go Go.Sv Go.Pl Go.Proofs Go.Tb Go.Ut
theorem txt_sz {x : Int} {k : Nat} (h : fw k x) : (txt x).size ≤ 10 * k + 2 := by
  have e : txt x = sb (txtL x) := rfl
  rw [e, sb_size]
  unfold txtL
  have h1 := wid_ten x.natAbs
  unfold fw at h
  have h2 : (dig 10 x.natAbs).length ≤ 10 * k := by
    have : (dig 10 x.natAbs).length = wid 10 x.natAbs := rfl
    omega
  split
  · simp
  · split <;> simp <;> omega
theorem qtxt_szB {q : Rat} (h : qw 10000000 q) : (qtxt q).size ≤ 300000000 := by
  have h1 := txt_sz h.1
  have h2 := txt_sz h.2
  unfold qtxt
  split
  · omega
  · rw [size_app, size_app]
    have : (⟨#[47]⟩ : ByteArray).size = 1 := rfl
    omega
end Go.Li
namespace Go.Proofs
open Go.Sv Go Go.Tb Go.Pl Go.Ut Go.Li
theorem rSaidB_ok (q : Rat) (h : qw 10000000 q) : PureF Tryz.prog 116 [.val (.string (qtxt q))] (.tup [qsv q, fsv 0 (-1)]) := by
  have hz := qtxt_szB h
  have g := pqread_ok (qtxt q) ((qtxt q).size + 1) (by omega) (by omega) (by omega)
  rw [qrd_txt q (by omega)] at g
  rw [show outP (q, 0, 0) = .tup [qsv q, fsv 0 (-1)] by simp [outP, fsv]] at g
  refine pure_enter Tryz.func116 rfl (by simp) (fun C hC => ?_)
  simp (disch := omega) [w64]
  repeat (refine And.intro (by omega) ?_)
  refine callS (g) (by simp) ?_
  simp [fsv]
set_option maxRecDepth 10000 in
/-- numbers out of their own texts -/
theorem rSaidT_ok (l : List Rat) (hl : l.length ≤ 1048576) (h : Wd 10000000 l) : PureF Tryz.prog 115 [.ro ((txts l).map strv)] (.tup [.ro (l.map qsv), .val (.bool true)]) := by
  have hz : (txts l).length = l.length := by simp
  refine pure_enter Tryz.func115 rfl (by simp) (fun C hC => ?_)
  simp
  refine CodeJ.nil 4 4 rfl ?_
  refine CodeJ.loopL (ι := Nat × List Rat) (fun ⟨i, xs⟩ => ⟨30, [(0, .ro ((txts l).map strv)), (4, .view 0 0 xs.length), (5, iv i)], [some ⟨4, xs.map qsv, false⟩]⟩)
    (fun ⟨i, xs⟩ => i ≤ l.length ∧ xs = l.take i) (fun ⟨i, xs⟩ => l.length - i) (0, []) (by simp) ?_ ?_
  · simp [leS, hC]
  · rintro ⟨i, xs⟩ ⟨hi, hx⟩
    have hxl : xs.length = i := by rw [hx]; simp; omega
    by_cases hlt : i < l.length
    · have e : gt (txts l) i = qtxt (gt l i) := by unfold txts; rw [gt_map _ hlt]
      have e2 : lget ((txts l).map strv) i = .val (.string (qtxt (gt l i))) := by rw [lget_str (by omega), e]; rfl
      have e3 := take_gt hlt
      rw [← hx] at e3
      simp (disch := omega) [hlt, e2]
      repeat (refine And.intro (by omega) ?_)
      refine callS (rSaidB_ok (gt l i) (h i hlt)) (by simp) ?_
      simp (disch := omega) [fsv, w64]
      repeat (refine And.intro (by omega) ?_)
      exact ⟨⟨by simp [hC], by omega⟩, i + 1, xs ++ [gt l i], ⟨by omega, e3.symm⟩, by omega, Le.syn (by simp (disch := omega) [leS, hC, w64])⟩
    · obtain rfl : i = l.length := by omega
      rw [List.take_of_length_le (by simp)] at hx
      simp [hx, List.take_of_length_le]
end Go.Proofs

