/- What the function Read of package ratio returns. A text of the prover's own. -/
import Derived.Test.YtlkaaaoeemejoaaGreatDoorQQj
namespace Go.Proofs
open Go.Sv Go Go.Pl
/-- where the first digits are read -/
def IH (s : ByteArray) (neg : Bool) (st : St) : Prop :=
  (∃ c p a, (c = 1 ∨ c = 2 ∨ c = 3) ∧ qrd 300 s = (0, c, p) ∧ st = st5 s ⟨#[]⟩ neg a (some (c, p))) ∨
  (sgnAt s < dend s (sgnAt s) ∧ ¬ sgnAt s + 300 < dend s (sgnAt s) ∧ st = st5 s (s.extract (sgnAt s) (dend s (sgnAt s))) neg (dend s (sgnAt s)) none)
set_option maxRecDepth 20000 in
theorem head_all {C : Ctx} {Q : Post} (hC : C.fx = []) {s : ByteArray} {neg : Bool} (hs : s.size ≤ 4611686018427387904) (hn : decide (minus s) = neg) {st : St} (h : IH s neg st) :
    vc Tryz.prog C (takeC 1 (dropC 5 readBody)) st (cutQ C (IA s) Q) (cutQ C (IA s) Q) := by
  rcases h with ⟨c, p, a, hc, hq, rfl⟩ | ⟨h2, h1, rfl⟩
  · exact head_err hC (Nat.zero_le _) hc hq
  · have hsz := sgnAt_le s
    obtain ⟨e, he⟩ : ∃ e, e = dend s (sgnAt s) := ⟨_, rfl⟩
    have hes := dend_le hsz
    have hTd := fun i (h1 : sgnAt s ≤ i) (h2 : i < e) => dend_dig (s := s) (a := sgnAt s) h1 (he ▸ h2)
    rw [← he] at h1 h2 hes ⊢
    have hTz := size_ext s (a := sgnAt s) hes
    have hT := rd_digits (dig_ext hes hTd) (by omega) (by omega)
    rw [hTz, nv_ext s hes _ (by omega)] at hT
    have ht : fw 400 (nv s (sgnAt s) (e - sgnAt s) : Nat) := fw_nv (fun i i1 i2 => hTd i i1 (by omega)) (by omega)
    have hT3 : (s.extract (sgnAt s) e).size ≤ 300 := by omega
    have hq0 : qrd 300 s = if isAt s e 47 then
        if e + 1 + 300 < dend s (e + 1) then (0, 2, e + 1 + 300)
        else if dend s (e + 1) = e + 1 ∨ dend s (e + 1) < s.size then (0, 1, dend s (e + 1))
        else if nv s (e + 1) (s.size - (e + 1)) = 0 then (0, 3, e + 1)
        else (Rat.divInt (sgnd s (nv s (sgnAt s) (e - sgnAt s))) (nv s (e + 1) (s.size - (e + 1)) : Int), 0, 0)
      else if isAt s e 46 then
        if e + 1 + 300 < dend s (e + 1) then (0, 2, e + 1 + 300)
        else if dend s (e + 1) = e + 1 then (0, 1, e + 1)
        else qtail s (nv s (sgnAt s) (e - sgnAt s) * 10 ^ (dend s (e + 1) - (e + 1)) + nv s (e + 1) (dend s (e + 1) - (e + 1))) (dend s (e + 1) - (e + 1)) (dend s (e + 1))
      else qtail s (nv s (sgnAt s) (e - sgnAt s)) 0 e := by
      unfold qrd; rw [← he, if_neg h1, if_neg (by omega)]
    clear he hTd h1 h2
    generalize nv s (sgnAt s) (e - sgnAt s) = tv at *
    generalize s.extract (sgnAt s) e = T at *
    by_cases g0 : isAt s e 47
    · rw [if_pos g0] at hq0
      exact head_slash hC hs hn hes hT hT3 ht g0 hq0
    · rw [if_neg g0] at hq0
      by_cases g : isAt s e 46
      · rw [if_pos g] at hq0
        by_cases hk : e + 1 + 300 < dend s (e + 1) ∨ dend s (e + 1) = e + 1
        · exact head_dot0 hC hs hn hes hT hT3 ht g0 g hk hq0
        · have hk1 : ¬ e + 1 + 300 < dend s (e + 1) := fun h => hk (.inl h)
          have hg := g.1
          have hk2 : e + 1 < dend s (e + 1) := by have := dend_ge s (e + 1); omega
          obtain ⟨f, hf⟩ : ∃ f, f = dend s (e + 1) := ⟨_, rfl⟩
          have hfs : f ≤ s.size := by rw [hf]; exact dend_le (by omega)
          have hPd := fun i (h1 : e + 1 ≤ i) (h2 : i < f) => dend_dig (s := s) (a := e + 1) h1 (hf ▸ h2)
          rw [if_neg hk1, if_neg (by omega), ← hf] at hq0
          have hPz := size_ext s (a := e + 1) hfs
          have hPn := nv_ext s (a := e + 1) hfs (f - (e + 1)) (by omega)
          have hPa := dig_ext hfs hPd
          rw [← hPn, ← hPz] at hq0
          by_cases x0 : isAt s f 101
          · by_cases x1 : isAt s (f + 1) 45
            · exact head_dx1 hC hs hn hes hT hT3 ht g0 g hk1 hk2 hf rfl hPz hPa hfs hq0 x0 x1
            · by_cases x2 : isAt s (f + 1) 43
              · exact head_dx2 hC hs hn hes hT hT3 ht g0 g hk1 hk2 hf rfl hPz hPa hfs hq0 x0 x1 x2
              · exact head_dx3 hC hs hn hes hT hT3 ht g0 g hk1 hk2 hf rfl hPz hPa hfs hq0 x0 x1 x2
          · exact head_dx0 hC hs hn hes hT hT3 ht g0 g hk1 hk2 hf rfl hPz hPa hfs hq0 x0
      · rw [if_neg g] at hq0
        have hq1 : qrd 300 s = qtail s (tv * 10 ^ (⟨#[]⟩ : ByteArray).size + nv ⟨#[]⟩ 0 (⟨#[]⟩ : ByteArray).size) (⟨#[]⟩ : ByteArray).size e := by
          rw [hq0, e_nv, e_size]; simp
        by_cases x0 : isAt s e 101
        · by_cases x1 : isAt s (e + 1) 45
          · exact head_nx1 hC hs hn hes hT hT3 ht g0 g rfl rfl e_size (e_all _) hes hq1 x0 x1
          · by_cases x2 : isAt s (e + 1) 43
            · exact head_nx2 hC hs hn hes hT hT3 ht g0 g rfl rfl e_size (e_all _) hes hq1 x0 x1 x2
            · exact head_nx3 hC hs hn hes hT hT3 ht g0 g rfl rfl e_size (e_all _) hes hq1 x0 x1 x2
        · exact head_nx0 hC hs hn hes hT hT3 ht g0 g rfl rfl e_size (e_all _) hes hq1 x0
set_option maxRecDepth 20000 in
theorem qRead_ok (s : ByteArray) (hs : s.size ≤ 4611686018427387904) : PureF Tryz.prog 68 [.val (.string s)] (outQ (qrd 300 s)) := by
  refine pure_enterJ Tryz.func68 rfl (by simp) (fun C hC => ?_)
  refine CodeJ.cutAt 3 (fun st => st = ⟨151, [(0, .val (.string s)), (2, .ptr 0 0 0), (3, .val .nilIface), (4, .ptr 1 0 0), (5, .val (.bool (decide (minus s))))], MR s (sgnAt s) none⟩) ?_ ?_
  · simp
    refine is_here s 0 45 (by simp [tget, rdr]) hs (by omega) (by simp) (fun h => ?_) (fun h => ?_)
    · have hm : minus s := h
      have ha : sgnAt s = 1 := by simp [sgnAt, hm]
      simp [rdr, hm, ha, MR, leS, hC, z4]
    · have hm : ¬ minus s := h
      have ha : sgnAt s = 0 := by simp [sgnAt, hm]
      simp [hm, ha, MR, leS, hC, z4, rdr]
  · rintro st rfl
    simp only [dropC_succ, dropC_zero]
    refine CodeJ.cutAt 2 (IH s (decide (minus s))) ?_ (fun st h => CodeJ.cutAt 1 (IA s) (head_all hC hs rfl h) ?_)
    · simp
      have hsz := sgnAt_le s
      generalize hneg : decide (minus s) = neg
      refine digits_here s (sgnAt s) (by simp [tget, MR]) hs hsz (by simp [MR]) (fun h1 => ?_) (fun h1 => ?_) (fun h1 h2 => ?_)
      · have hq : qrd 300 s = (0, 2, sgnAt s + 300) := by unfold qrd; rw [if_pos h1]
        simp
        exact ⟨_, Or.inl ⟨2, sgnAt s + 300, sgnAt s + 300, .inr (.inl rfl), hq, rfl⟩, by simp [leS, hC, MR, flt, st5]⟩
      · have hq : qrd 300 s = (0, 1, sgnAt s) := by unfold qrd; rw [if_neg (by omega), if_pos h1]
        simp
        exact ⟨_, Or.inl ⟨1, sgnAt s, sgnAt s, .inl rfl, hq, rfl⟩, by simp [leS, hC, MR, flt, st5]⟩
      · simp
        exact ⟨_, Or.inr ⟨h2, h1, rfl⟩, by simp [leS, hC, MR, st5]⟩
    · rintro st ⟨T, P, Lw, Pw, a, la, pa, E, neg, up, t, d, h1, h2, h3, h4, h5, h6, h7, h8, h9, h10, h11, rfl⟩
      have := read_a (C := C) hC s T P Lw Pw a la pa E neg up t d h1 h2 h3 h4 h5 h6 h7 h8 h9 h10
      rw [h11] at this
      exact this

