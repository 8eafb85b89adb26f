/- What the document's functions digits (of any bound), Ten and power return. A text of the prover's own. -/
import Derived.Test.YtlkaaaoeemejoaaGreatDoorQQk
namespace Go.Proofs
open Go.Sv Go Go.Pl
/-- what the document's digits returns, at most m in a row -/
def dgm (m : Nat) (s : ByteArray) (a : Nat) : Nat × Nat × Int :=
  if a + m < dend s a then (a + m, 2, ((a + m : Nat) : Int)) else if dend s a = a then (a, 1, a) else (dend s a, 0, -1)
set_option maxRecDepth 20000 in
theorem pDigits_ok (s : ByteArray) (a m : Nat) (ha : a ≤ s.size) (hs : s.size ≤ 4611686018427387904) (hm : m ≤ 4611686018427387904) :
    PureF Tryz.prog 132 [.val (.string s), .val (.int .i64 a), .val (.int .i64 m)] (.tup [.val (.int .i64 (dgm m s a).1), fsv (dgm m s a).2.1 (dgm m s a).2.2]) := by
  refine pure_enter Tryz.func132 rfl (by simp) (fun C hC => ?_)
  simp
  refine CodeJ.loop (ι := Nat) (fun i => ⟨38, [(0, .val (.string s)), (1, .val (.int .i64 a)), (2, .val (.int .i64 m)), (7, .ptr 0 0 0), (8, .val (.int .i64 i))],
      [some ⟨2, [.agg [.val (.int .i64 0), .val (.int .i64 0)]], false⟩]⟩)
    (fun i => a ≤ i ∧ i ≤ s.size ∧ i ≤ a + m ∧ ∀ k, a ≤ k → k < i → digAt s k) (fun i => s.size - i) a ?_ ?_ ?_
  · exact ⟨by omega, ha, by omega, fun k h1 h2 => by omega⟩
  · simp [leS, hC]
  · rintro i ⟨h1, h2, h3, h4⟩
    have hb := byt_lt s i
    have stop : ¬ digAt s i → dend s a = i := fun h => dend_eq h1 h4 h
    have e3 : ¬ digAt s i → ¬ a + m < dend s a := fun h => by rw [stop h]; omega
    by_cases hi : i < s.size
    · have hd := rDigit_ok (byt s i) hb
      simp [hi]
      refine callF hd (by simp [byt]) ?_
      by_cases hdg : isDig (byt s i)
      · have hdi : digAt s i := ⟨hi, hdg⟩
        have all : ∀ k, a ≤ k → k < i + 1 → digAt s k := fun k k1 k2 => by
          by_cases e : k = i
          · subst e; exact hdi
          · exact h4 k k1 (by omega)
        by_cases he : i = a + m
        · have he' : (i : Int) - a = m := by omega
          have hgt := dend_gt h1 fun k k1 k2 => all k k1 (by omega)
          have hr : dgm m s a = (i, 2, (i : Int)) := by
            unfold dgm; rw [if_pos (by omega), ← he]
          simp (disch := omega) [hdg, he', w64, hr, fsv]
        · have he' : ¬ (i : Int) - a = m := by omega
          simp (disch := omega) [hdg, he', w64]
          exact ⟨i + 1, ⟨by omega, by omega, by omega, all⟩, by omega, by simp [leS, hC]⟩
      · have hnd : ¬ digAt s i := fun h => hdg h.2
        by_cases he : i = a
        · have hr : dgm m s a = (a, 1, (a : Int)) := by
            unfold dgm; rw [if_neg (e3 hnd), if_pos (by rw [stop hnd, he])]
          subst he
          simp [hdg, hr, fsv]
        · have hr : dgm m s a = (i, 0, (-1 : Int)) := by
            unfold dgm; rw [if_neg (e3 hnd), if_neg (by rw [stop hnd]; exact he), stop hnd]
          have he' : ¬ (i : Int) = a := by omega
          simp [hdg, hr, fsv, he']
    · have hnd : ¬ digAt s i := fun h => hi h.1
      by_cases he : i = a
      · have hr : dgm m s a = (a, 1, (a : Int)) := by
          unfold dgm; rw [if_neg (e3 hnd), if_pos (by rw [stop hnd, he])]
        subst he
        simp [hi, hr, fsv]
      · have hr : dgm m s a = (i, 0, (-1 : Int)) := by
          unfold dgm; rw [if_neg (e3 hnd), if_neg (by rw [stop hnd]; exact he), stop hnd]
        have he' : ¬ (i : Int) = a := by omega
        simp [hi, hr, fsv, he']
theorem rfit10 {n k : Nat} (h : n < 10 ^ k) (hk : k ≤ 1000000000000) : rfit (n : Int) := by
  unfold rfit
  rw [Int.natAbs_natCast]
  exact Nat.le_trans (wid_base (A := 10) (B := 10000) (by omega) (by omega) n) (Nat.le_trans (wid_le (by omega) h) hk)
theorem rfitp {i : Nat} (h : i ≤ 1000000000) : rfit ((10 : Int) ^ i) := by
  rw [show (10 : Int) ^ i = ((10 ^ i : Nat) : Int) by push_cast; rfl]
  exact rfit10 (Nat.pow_lt_pow_right (by omega) (Nat.lt_succ_self i)) (by omega)
set_option maxRecDepth 20000 in
theorem pTen_ok (n : Nat) (hn : n ≤ 1000000000) : PureF Tryz.prog 138 [.val (.int .i64 n)] (nsv ((10 : Int) ^ n)) := by
  refine pure_enter Tryz.func138 rfl (by simp) (fun C hC => ?_)
  simp
  refine callS (rSmall_ok 1 (by omega) (by omega)) (by simp) ?_
  simp
  refine callS (rSmall_ok 10 (by omega) (by omega)) (by simp) ?_
  simp
  refine CodeJ.loop (ι := Nat) (fun i => ⟨17, [(0, .val (.int .i64 n)), (2, .ptr 0 0 0), (3, .ptr 1 0 0), (4, .ptr 2 0 0), (5, .val (.int .i64 i))],
      [some ⟨2, [.agg [.val (.bool false), .val (.slice none 0 0)]], false⟩, some ⟨2, [nsv ((10 : Int) ^ i)], false⟩, some ⟨2, [nsv 10], false⟩]⟩)
    (fun i => i ≤ n) (fun i => n - i) 0 ?_ ?_ ?_
  · exact Nat.zero_le _
  · simp [leS, hC]
  · rintro i hi
    by_cases hlt : i < n
    · have hlt' : (i : Int) < n := by omega
      have m1 := rMul_ok ((10 : Int) ^ i) 10 (rfitp (by omega)) (rfit10 (n := 10) (k := 2) (by decide) (by omega))
      rw [show (10 : Int) ^ i * 10 = (10 : Int) ^ (i + 1) by rw [Int.pow_succ]] at m1
      generalize (10 : Int) ^ i = X at *
      simp (disch := omega) [hlt']
      refine callS m1 (by simp) ?_
      simp (disch := omega) [w64]
      exact ⟨i + 1, by omega, by omega, by simp [leS, hC]⟩
    · obtain rfl : i = n := by omega
      simp
set_option maxRecDepth 20000 in
theorem pTen_neg (n : Int) (hn : n ≤ 0) (h2 : -1000 ≤ n) : PureF Tryz.prog 138 [.val (.int .i64 n)] (nsv 1) := by
  refine pure_enter Tryz.func138 rfl (by simp) (fun C hC => ?_)
  simp
  refine callS (rSmall_ok 1 (by omega) (by omega)) (by simp) ?_
  simp
  refine callS (rSmall_ok 10 (by omega) (by omega)) (by simp) ?_
  simp
  refine CodeJ.loop (ι := Unit) (fun _ => ⟨17, [(0, .val (.int .i64 n)), (2, .ptr 0 0 0), (3, .ptr 1 0 0), (5, .val (.int .i64 0))],
      [some ⟨2, [.agg [.val (.bool false), .val (.slice none 0 0)]], false⟩, some ⟨2, [nsv 1], false⟩]⟩)
    (fun i => True) (fun i => 0) () ?_ ?_ ?_
  · trivial
  · simp [leS, hC]
  · rintro i hi
    have hlt' : ¬ 0 < n := by omega
    simp [hlt']
/-- the exponent, as the document reckons it -/
def capR (s : ByteArray) (a : Nat) : Nat → Nat
  | 0 => 0
  | k + 1 => if capR s a k ≤ 60 then 10 * capR s a k + (byt s (a + k) - 48) else capR s a k
theorem capR_eq (s : ByteArray) (a : Nat) (h : ∀ i, byt s i < 256) : ∀ k, (capR s a k ≤ 60 → capR s a k = nv s a k) ∧ (60 < capR s a k → 60 < nv s a k) ∧ capR s a k ≤ 1000
  | 0 => ⟨fun _ => rfl, fun h => by simp [capR] at h, by simp [capR]⟩
  | k + 1 => by
    obtain ⟨h1, h2, h3⟩ := capR_eq s a h k
    have hb := h (a + k)
    simp only [capR, nv]
    by_cases hc : capR s a k ≤ 60
    · rw [if_pos hc]
      have := h1 hc
      omega
    · rw [if_neg hc]
      have := h2 (by omega)
      omega
/-- what the document's power returns behind e -/
def pwS (s : ByteArray) (e : Nat) : SV :=
  if expAt s e + 300 < dend s (expAt s e) then .tup [.val (.int .i64 0), .val (.int .i64 (expAt s e + 300 : Nat)), fsv 2 (expAt s e + 300 : Nat)]
  else if dend s (expAt s e) = expAt s e then .tup [.val (.int .i64 0), .val (.int .i64 (expAt s e)), fsv 1 (expAt s e)]
  else if dend s (expAt s e) < s.size then .tup [.val (.int .i64 0), .val (.int .i64 (dend s (expAt s e))), fsv 1 (dend s (expAt s e))]
  else if 60 < nv s (expAt s e) (s.size - expAt s e) then .tup [.val (.int .i64 0), .val (.int .i64 s.size), fsv 2 (expAt s e)]
  else .tup [.val (.int .i64 (if isAt s (e + 1) 45 then -(nv s (expAt s e) (s.size - expAt s e) : Int) else (nv s (expAt s e) (s.size - expAt s e) : Int))), .val (.int .i64 s.size), fsv 0 (-1)]
set_option maxRecDepth 20000 in
theorem pPower_ok (s : ByteArray) (e : Nat) (he : e < s.size) (hs : s.size ≤ 4611686018427387904) : PureF Tryz.prog 137 [.val (.string s), .val (.int .i64 (e + 1 : Nat))] (pwS s e) := by
  refine pure_enterJ Tryz.func137 rfl (by simp) (fun C hC => ?_)
  obtain ⟨b, hb⟩ : ∃ b, b = expAt s e := ⟨_, rfl⟩
  have hexp : ((b = e + 2 ∧ e + 1 < s.size) ∨ b = e + 1) := by
    rw [hb]; unfold expAt
    split
    · rename_i h; rcases h with h | h <;> exact .inl ⟨rfl, h.1⟩
    · exact .inr rfl
  have hbs : b ≤ s.size := by omega
  have hd := pDigits_ok s b 300 hbs hs (by omega)
  have hpw : pwS s e = if b + 300 < dend s b then .tup [.val (.int .i64 0), .val (.int .i64 (b + 300 : Nat)), fsv 2 (b + 300 : Nat)]
      else if dend s b = b then .tup [.val (.int .i64 0), .val (.int .i64 b), fsv 1 b]
      else if dend s b < s.size then .tup [.val (.int .i64 0), .val (.int .i64 (dend s b)), fsv 1 (dend s b)]
      else if 60 < nv s b (s.size - b) then .tup [.val (.int .i64 0), .val (.int .i64 s.size), fsv 2 b]
      else .tup [.val (.int .i64 (if isAt s (e + 1) 45 then -(nv s b (s.size - b) : Int) else (nv s b (s.size - b) : Int))), .val (.int .i64 s.size), fsv 0 (-1)] := by
    unfold pwS; rw [← hb]
  rw [hpw]
  clear hpw
  obtain ⟨neg, hneg⟩ : ∃ neg : Bool, neg = decide (isAt s (e + 1) 45) := ⟨_, rfl⟩
  have hng : (if isAt s (e + 1) 45 then -(nv s b (s.size - b) : Int) else (nv s b (s.size - b) : Int)) = if neg = true then -(nv s b (s.size - b) : Int) else (nv s b (s.size - b) : Int) := by
    rw [hneg]; by_cases h : isAt s (e + 1) 45 <;> simp [h]
  rw [hng]
  refine CodeJ.cutAt 3 (fun st => st = ⟨82, [(0, .val (.string s)), (1, .val (.int .i64 b)), (6, .ptr 0 0 0), (7, .val (.bool neg))], [some ⟨2, [.agg [.val (.int .i64 0), .val (.int .i64 0)]], false⟩]⟩) ?_ ?_
  · have hb' := hb
    unfold expAt at hb'
    rw [show e + 2 = (e + 1) + 1 by omega] at hb'
    clear hb hexp hd hng
    generalize e + 1 = p at *
    simp
    by_cases h1 : p < s.size
    · have h1' : (p : Int) < s.size := by omega
      by_cases h2 : byt s p = 45
      · have x1 : isAt s p 45 := ⟨h1, h2⟩
        have h2' := byt_eq.2 h2
        rw [if_pos (.inl x1)] at hb'
        have hn : neg = true := by rw [hneg]; simp [x1]
        simp (disch := omega) [h1, h2', w64]
        simp [leS, hC, hb', hn] <;> omega
      · have x1 : ¬ isAt s p 45 := fun h => h2 h.2
        have h2' : ¬ ((sget s p).toNat : Int) = 45 := fun h => h2 (byt_eq (c := 45) |>.1 h)
        have hn : neg = false := by rw [hneg]; simp [x1]
        by_cases h3 : byt s p = 43
        · have x2 : isAt s p 43 := ⟨h1, h3⟩
          have h3' := byt_eq.2 h3
          rw [if_pos (.inr x2)] at hb'
          simp (disch := omega) [h1, h3', w64]
          simp [leS, hC, hb', hn] <;> omega
        · have x2 : ¬ isAt s p 43 := fun h => h3 h.2
          have h3' : ¬ ((sget s p).toNat : Int) = 43 := fun h => h3 (byt_eq (c := 43) |>.1 h)
          rw [if_neg (fun h => h.elim x1 x2)] at hb'
          simp (disch := omega) [h1, h2', h3', w64]
          simp [leS, hC, hb', hn] <;> omega
    · have x1 : ¬ isAt s p 45 := fun h => h1 h.1
      have x2 : ¬ isAt s p 43 := fun h => h1 h.1
      rw [if_neg (fun h => h.elim x1 x2)] at hb'
      have hn : neg = false := by rw [hneg]; simp [x1]
      simp (disch := omega) [h1]
      simp [leS, hC, hb', hn] <;> omega
  · rintro st rfl
    simp only [dropC_succ, dropC_zero]
    refine CodeJ.go ?_
    clear hng hneg hb hexp he
    simp
    refine callS hd (by simp) ?_
    by_cases k1 : b + 300 < dend s b
    · have e1 : dgm 300 s b = (b + 300, 2, ((b + 300 : Nat) : Int)) := by unfold dgm; rw [if_pos k1]
      rw [e1, if_pos k1]
      simp [fsv]
      refine CodeJ.draw (.qs [0, 1, 2, 3] <| .l 4 [0] <| .nil) (by kernel_rfl) (by kernel_rfl) (by simp) ?_
      simp
    · rw [if_neg k1]
      by_cases k2 : dend s b = b
      · have e1 : dgm 300 s b = (b, 1, (b : Int)) := by unfold dgm; rw [if_neg k1, if_pos k2]
        rw [e1, if_pos k2]
        simp [fsv]
        refine CodeJ.draw (.qs [0, 1, 2, 3] <| .l 4 [0] <| .nil) (by kernel_rfl) (by kernel_rfl) (by simp) ?_
        simp
      · rw [if_neg k2]
        have e1 : dgm 300 s b = (dend s b, 0, (-1 : Int)) := by unfold dgm; rw [if_neg k1, if_neg k2]
        have hcs := dend_le hbs
        have hge := dend_ge s b
        have hWd := fun i (h1 : b ≤ i) (h2 : i < dend s b) => dend_dig (s := s) (a := b) h1 h2
        rw [e1]
        generalize dend s b = c at *
        by_cases k3 : c < s.size
        · rw [if_pos k3]
          simp [fsv, k3]
        · rw [if_neg k3]
          obtain rfl : c = s.size := by omega
          simp [fsv]
          refine CodeJ.loop (ι := Nat) (fun i => ⟨82, [(0, .val (.string s)), (1, .val (.int .i64 b)), (6, .ptr 0 0 0), (7, .val (.bool neg)), (8, .val (.int .i64 s.size)), (10, .val (.int .i64 (capR s b i))), (11, .val (.int .i64 (b + i : Nat)))], [some ⟨2, [.agg [.val (.int .i64 0), .val (.int .i64 0)]], false⟩]⟩)
            (fun i => b + i ≤ s.size) (fun i => s.size - b - i) 0 ?_ ?_ ?_
          · exact hbs
          · simp [leS, hC, capR]
          · rintro i hi
            obtain ⟨g1, g2, g3⟩ := capR_eq s b (byt_lt s) i
            by_cases hlt : b + i < s.size
            · have hlt' : (b : Int) + i < s.size := by omega
              obtain ⟨d, hd⟩ : ∃ d, d = byt s (b + i) - 48 := ⟨_, rfl⟩
              have hdg := (hWd (b + i) (by omega) hlt).2
              have hcb : byt s (b + i) = 48 + d := by have := hdg.1; omega
              have hc9 : d ≤ 9 := by have := hdg.2; omega
              have hbb : ((sget s (b + i)).toNat : Int) = 48 + d := by unfold byt at hcb; omega
              have hw : (48 + (d : Int) - 48) % 256 = d := by omega
              have e : capR s b (i + 1) = if capR s b i ≤ 60 then 10 * capR s b i + d else capR s b i := by simp only [capR]; rw [← hd]
              generalize capR s b i = X at *
              by_cases hX : X ≤ 60
              · have hX' : (X : Int) ≤ 60 := by omega
                rw [if_pos hX] at e
                have e' : 10 * (X : Int) + d = ((capR s b (i + 1) : Nat) : Int) := by rw [e]; push_cast; rfl
                simp (disch := omega) [hlt', hbb, u8w, w64, hw, hX', e']
                exact ⟨by omega, i + 1, by omega, by omega, by simp [leS, hC]; omega⟩
              · have hX' : ¬ (X : Int) ≤ 60 := by omega
                rw [if_neg hX] at e
                simp (disch := omega) [hlt', w64, hX']
                exact ⟨i + 1, by omega, by omega, by simp [leS, hC, e]; omega⟩
            · obtain rfl : i = s.size - b := by omega
              have hlt' : ¬ (b : Int) + ((s.size - b : Nat) : Int) < s.size := by omega
              generalize capR s b (s.size - b) = X at *
              generalize nv s b (s.size - b) = x at *
              by_cases hX : 60 < X
              · have hX' : (60 : Int) < X := by omega
                rw [if_pos (g2 hX)]
                simp [hlt', hX']
              · have hX' : ¬ (60 : Int) < X := by omega
                have ex := g1 (by omega)
                subst ex
                rw [if_neg hX]
                cases neg with
                | true =>
                  simp (disch := omega) [hlt', hX', w64]
                | false => simp [hlt', hX']

