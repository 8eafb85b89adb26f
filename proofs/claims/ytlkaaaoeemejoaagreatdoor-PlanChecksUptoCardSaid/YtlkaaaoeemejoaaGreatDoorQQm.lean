/- What the document's function qread returns. A text of the prover's own. -/
import Derived.Test.YtlkaaaoeemejoaaGreatDoorQQl
namespace Go.Proofs
open Go.Sv Go Go.Pl
/-- the document's answer, of what a text says -/
def outP (r : Rat × Nat × Nat) : SV := .tup [if r.2.1 = 0 then qsv r.1 else qnil, fsv r.2.1 (if r.2.1 = 0 then -1 else (r.2.2 : Int))]
noncomputable def qreadBody : Code := Tryz.f75.body.getD .skip
def q4 : Option Ent := some ⟨4, [.agg [.val (.bool false), .val (.slice none 0 0), .val (.bool false), .val (.slice none 0 0)]], false⟩
def fe (c : Nat) (a : Int) : Option Ent := some ⟨2, [fsv c a], false⟩
abbrev QP (m : Nat) (s : ByteArray) : Post := retQ Tryz.prog [.cell 4 51, .cell 5 53] (fun y => y = outP (qrd m s))
theorem fsv_cells (c : Nat) (a : Int) : (fsv c a).cells = [.val (.int .i64 c), .val (.int .i64 a)] := rfl
set_option maxRecDepth 20000 in
/-- the tail: a number, its places, an exponent -/
theorem qr_end {C : Ctx} (hC : C.fx = []) {s : ByteArray} {m : Nat} {neg : Bool} {N p f : Nat} {up : Int} (hn : decide (minus s) = neg) {k : Nat} (hk : k ≤ 800000000) (hN : N < 10 ^ k) (hp : p ≤ 800000000) (hup : -60 ≤ up ∧ up ≤ 60)
    (hq : qrd m s = if f < s.size then (0, 1, f) else if 0 < up then (Rat.divInt (sgnd s (N * 10 ^ up.toNat)) ((10 ^ p : Nat) : Int), 0, 0) else (Rat.divInt (sgnd s N) ((10 ^ (p + (-up).toNat) : Nat) : Int), 0, 0)) :
    CodeJ Tryz.prog C (dropC 14 qreadBody) ⟨193, [(0, .val (.string s)), (4, .ptr 0 0 0), (5, .ptr 1 0 0), (7, .val (.bool neg)), (8, .val (.int .i64 f)), (11, .ptr 3 0 0), (12, .ptr 4 0 0), (15, .val (.int .i64 p)), (18, .val (.int .i64 up))], [q4, fe 0 0, fe 0 (-1), some ⟨2, [nsv N], false⟩, some ⟨2, [nsv 1], false⟩]⟩ (QP m s) := by
  simp only [qreadBody, Tryz.f75, Option.getD_some, dropC_succ, dropC_zero]
  refine CodeJ.go ?_
  by_cases h1 : f < s.size
  · rw [if_pos h1] at hq
    simp [h1, q4, fe, fsv, hq, outP, qnil]
  · rw [if_neg h1] at hq
    have ten := pTen_ok p (by omega)
    have hp10 := rfitp (i := p) (by omega)
    simp [h1]
    refine callS ten (by simp) ?_
    by_cases h2 : 0 < up
    · rw [if_pos h2] at hq
      obtain ⟨u, hu⟩ : ∃ u : Nat, u = up.toNat := ⟨_, rfl⟩
      obtain rfl : up = (u : Int) := by omega
      rw [← hu] at hq
      have hNu : rfit ((N : Int) * (10 : Int) ^ u) := by
        rw [show (N : Int) * (10 : Int) ^ u = ((N * 10 ^ u : Nat) : Int) by push_cast; rfl]
        refine rfit10 (k := k + u) ?_ (by omega)
        rw [Nat.pow_add]
        exact Nat.mul_lt_mul_of_pos_right hN (Nat.pow_pos (by omega))
      have hv : (if neg = true then -((N : Int) * (10 : Int) ^ u) else (N : Int) * (10 : Int) ^ u) = sgnd s (N * 10 ^ u) := by
        rw [sgnd_eq hn]; push_cast; rfl
      have mk := rMade_dig neg (N * 10 ^ u) (by have := hNu; unfold rfit at this; rwa [show (N : Int) * (10 : Int) ^ u = ((N * 10 ^ u : Nat) : Int) by push_cast; rfl, Int.natAbs_natCast] at this)
      have ov := pOver_ok (sgnd s (N * 10 ^ u)) ((10 : Int) ^ p) (by rw [← hv]; split; exact rfit_neg.2 hNu; exact hNu) hp10 (by have : (0 : Int) < 10 ^ p := Int.pow_pos (by omega); omega)
      rw [show (if neg = true then -((N * 10 ^ u : Nat) : Int) else ((N * 10 ^ u : Nat) : Int)) = sgnd s (N * 10 ^ u) from (sgnd_eq hn _).symm] at mk
      have h2' : 0 < u := by omega
      have ml := rMul_ok (N : Int) ((10 : Int) ^ u) (rfit10 hN (by omega)) (rfitp (by omega))
      have hX : ((N : Int) * (10 : Int) ^ u).natAbs = N * 10 ^ u := by
        rw [show (N : Int) * (10 : Int) ^ u = ((N * 10 ^ u : Nat) : Int) by push_cast; rfl, Int.natAbs_natCast]
      generalize sgnd s (N * 10 ^ u) = Y at *
      rw [← hX] at mk
      generalize (N : Int) * (10 : Int) ^ u = X at *
      simp [h2', q4, fe, fsv]
      refine callS (pTen_ok u (by omega)) (by simp) ?_
      simp
      refine callS ml (by simp) ?_
      simp
      refine CodeJ.draw (.qs [0, 1, 2, 4, 6] <| .l 3 [] <| .l 5 [] <| .l 7 [0] <| .l 8 [1] <| .nil) (by kernel_rfl) (by kernel_rfl) (by simp) ?_
      simp
      refine callS mk (by simp) ?_
      simp
      refine callS ov (by simp) ?_
      simp [outP, hq, fsv]
    · rw [if_neg h2] at hq
      obtain ⟨u, hu⟩ : ∃ u : Nat, u = (-up).toNat := ⟨_, rfl⟩
      obtain rfl : up = -(u : Int) := by omega
      rw [← hu] at hq
      have h2' : ¬ 0 < -(u : Int) := h2
      have hD : rfit ((10 : Int) ^ p * (10 : Int) ^ u) := by rw [← Int.pow_add]; exact rfitp (by omega)
      have hN' : rfit (N : Int) := rfit10 hN (by omega)
      have mk := rMade_dig neg N (by have := hN'; unfold rfit at this; rwa [Int.natAbs_natCast] at this)
      rw [show (if neg = true then -((N : Nat) : Int) else ((N : Nat) : Int)) = sgnd s N from (sgnd_eq hn _).symm] at mk
      have hsN : rfit (sgnd s N) := by rw [sgnd_eq hn]; split; exact rfit_neg.2 hN'; exact hN'
      have ov := pOver_ok (sgnd s N) ((10 : Int) ^ p * (10 : Int) ^ u) hsN hD (by have : (0 : Int) < 10 ^ p := Int.pow_pos (by omega); have : (0 : Int) < 10 ^ u := Int.pow_pos (by omega); exact Int.mul_ne_zero (by omega) (by omega))
      have e10 : ((10 ^ (p + u) : Nat) : Int) = (10 : Int) ^ p * (10 : Int) ^ u := by rw [Nat.pow_add]; push_cast; rfl
      rw [e10] at hq
      have hneg : (0 : Int) - -(u : Int) = u := by omega
      have hu0 : ¬ (u : Int) < 0 := by omega
      have ml := rMul_ok ((10 : Int) ^ p) ((10 : Int) ^ u) hp10 (rfitp (by omega))
      generalize (10 : Int) ^ p * (10 : Int) ^ u = X at *
      generalize sgnd s N = Y at *
      simp (disch := omega) [q4, fe, fsv, w64, hneg, hu0]
      refine callS (pTen_ok u (by omega)) (by simp) ?_
      simp
      refine callS ml (by simp) ?_
      simp
      refine CodeJ.draw (.qs [0, 1, 2, 4, 6] <| .l 3 [] <| .l 5 [] <| .l 7 [0] <| .l 8 [1] <| .nil) (by kernel_rfl) (by kernel_rfl) (by simp) ?_
      simp
      refine callS mk (by simp) ?_
      simp
      refine callS ov (by simp) ?_
      simp [outP, hq, fsv]

/-- behind an exponent or none -/
def XS (m : Nat) (s : ByteArray) (neg : Bool) (st : St) : Prop := ∃ (N p f k : Nat) (up : Int), k ≤ 800000000 ∧ N < 10 ^ k ∧ p ≤ 800000000 ∧ (-60 ≤ up ∧ up ≤ 60) ∧
  (qrd m s = if f < s.size then (0, 1, f) else if 0 < up then (Rat.divInt (sgnd s (N * 10 ^ up.toNat)) ((10 ^ p : Nat) : Int), 0, 0) else (Rat.divInt (sgnd s N) ((10 ^ (p + (-up).toNat) : Nat) : Int), 0, 0)) ∧
  st = ⟨193, [(0, .val (.string s)), (4, .ptr 0 0 0), (5, .ptr 1 0 0), (7, .val (.bool neg)), (8, .val (.int .i64 f)), (11, .ptr 3 0 0), (12, .ptr 4 0 0), (15, .val (.int .i64 p)), (18, .val (.int .i64 up))], [q4, fe 0 0, fe 0 (-1), some ⟨2, [nsv N], false⟩, some ⟨2, [nsv 1], false⟩]⟩
set_option maxRecDepth 20000 in
theorem qr_exp {C : Ctx} (hC : C.fx = []) {s : ByteArray} {m : Nat} {neg : Bool} {N p f k : Nat} (hs : s.size ≤ 4611686018427387904) (hn : decide (minus s) = neg) (hk : k ≤ 800000000) (hN : N < 10 ^ k) (hp : p ≤ 800000000) (hfs : f ≤ s.size)
    (hq : qrd m s = qtail s N p f) :
    CodeJ Tryz.prog C (dropC 12 qreadBody) ⟨193, [(0, .val (.string s)), (4, .ptr 0 0 0), (5, .ptr 1 0 0), (7, .val (.bool neg)), (8, .val (.int .i64 f)), (11, .ptr 3 0 0), (12, .ptr 4 0 0), (15, .val (.int .i64 p))], [q4, fe 0 0, fe 0 (-1), some ⟨2, [nsv N], false⟩, some ⟨2, [nsv 1], false⟩]⟩ (QP m s) := by
  refine CodeJ.cutAt 2 (XS m s neg) ?_ ?_
  · simp only [qreadBody, Tryz.f75, Option.getD_some, dropC_succ, dropC_zero, takeC_succ, takeC_zero]
    unfold qtail at hq
    by_cases x0 : isAt s f 101
    · rw [if_pos x0] at hq
      have h1 := x0.1
      have h2 := byt_eq.2 x0.2
      have pw := pPower_ok s f h1 hs
      rw [show ((f + 1 : Nat) : Int) = (f : Int) + 1 by push_cast; rfl] at pw
      unfold pwS at pw
      generalize expAt s f = b at *
      by_cases k1 : b + 300 < dend s b
      · rw [if_pos k1] at pw hq
        simp (disch := omega) [h1, h2, w64]
        refine callS pw (by simp [fsv]) ?_
        simp [fsv, fe, q4]
        refine CodeJ.draw (.qs [0] <| .q 1 [0] <| .l 2 [0] <| .l 3 [1] <| .nil) (by kernel_rfl) (by kernel_rfl) (by simp) ?_
        simp [outP, hq, fsv, qnil, Sv.Sub, SubL]
      · rw [if_neg k1] at pw hq
        by_cases k2 : dend s b = b
        · rw [if_pos k2] at pw
          rw [if_pos (.inl k2), k2] at hq
          simp (disch := omega) [h1, h2, w64]
          refine callS pw (by simp [fsv]) ?_
          simp [fsv, fe, q4]
          refine CodeJ.draw (.qs [0] <| .q 1 [0] <| .l 2 [0] <| .l 3 [1] <| .nil) (by kernel_rfl) (by kernel_rfl) (by simp) ?_
          simp [outP, hq, fsv, qnil, Sv.Sub, SubL]
        · rw [if_neg k2] at pw
          by_cases k3 : dend s b < s.size
          · rw [if_pos k3] at pw
            rw [if_pos (.inr k3)] at hq
            simp (disch := omega) [h1, h2, w64]
            refine callS pw (by simp [fsv]) ?_
            simp [fsv, fe, q4]
            refine CodeJ.draw (.qs [0] <| .q 1 [0] <| .l 2 [0] <| .l 3 [1] <| .nil) (by kernel_rfl) (by kernel_rfl) (by simp) ?_
            simp [outP, hq, fsv, qnil, Sv.Sub, SubL]
          · rw [if_neg k3] at pw
            rw [if_neg (fun h => h.elim k2 k3)] at hq
            generalize nv s b (s.size - b) = x at *
            by_cases k4 : 60 < x
            · rw [if_pos k4] at pw hq
              simp (disch := omega) [h1, h2, w64]
              refine callS pw (by simp [fsv]) ?_
              simp [fsv, fe, q4]
              refine CodeJ.draw (.qs [0] <| .q 1 [0] <| .l 2 [0] <| .l 3 [1] <| .nil) (by kernel_rfl) (by kernel_rfl) (by simp) ?_
              simp [outP, hq, fsv, qnil, Sv.Sub, SubL]
            · rw [if_neg k4] at pw hq
              obtain ⟨up, hup⟩ : ∃ up, up = if isAt s (f + 1) 45 then -(x : Int) else (x : Int) := ⟨_, rfl⟩
              rw [← hup] at pw
              have hb : -60 ≤ up ∧ up ≤ 60 := by rw [hup]; split <;> omega
              simp (disch := omega) [h1, h2, w64]
              refine callS pw (by simp [fsv]) ?_
              simp [fsv, fe, q4]
              refine ⟨_, ⟨N, p, s.size, k, up, hk, hN, hp, hb, ?_, rfl⟩, by simp [leS, hC, fe, q4, fsv]⟩
              rw [hq, if_neg (Nat.lt_irrefl _)]
              by_cases x1 : isAt s (f + 1) 45
              · rw [if_pos x1] at hup ⊢
                rw [if_neg (by omega), show (-up).toNat = x by omega]
              · rw [if_neg x1] at hup ⊢
                by_cases hx0 : x = 0
                · subst hx0
                  simp [hup]
                · rw [if_pos (by omega), show up.toNat = x by omega]
    · rw [if_neg x0] at hq
      have fin : ((f < s.size ∧ ¬ ((sget s f).toNat : Int) = 101) ∨ ¬ f < s.size) := by
        by_cases h : f < s.size
        · exact .inl ⟨h, fun h2 => x0 ⟨h, byt_eq (c := 101) |>.1 h2⟩⟩
        · exact .inr h
      rcases fin with ⟨h1, h2⟩ | h1
      · simp [h1, h2]
        refine ⟨_, ⟨N, p, f, k, 0, hk, hN, hp, by omega, ?_, rfl⟩, by simp [leS, hC]⟩
        rw [hq]; simp
      · simp [h1]
        refine ⟨_, ⟨N, p, f, k, 0, hk, hN, hp, by omega, ?_, rfl⟩, by simp [leS, hC]⟩
        rw [hq]; simp
  · rintro st ⟨N, p, f, k, up, h1, h2, h3, h4, h5, rfl⟩
    exact qr_end hC hn h1 h2 h3 h4 h5

