/- What the document's functions starting and Least, and sameInts of the laws' package, return. A text of the prover's own. -/
import Derived.Test.YtlkaaaoeemejoaaDoorQPf
namespace Go.Proofs
open Go.Sv Go Go.Pn
def resSV : Option (List Int) → SV
  | some z => .tup [.ro (z.map iz), .val (.bool true)]
  | none => .tup [.ro [], .val (.bool false)]
theorem part_sv (p : Plan) (m : Nat) : SV.agg [.ro ((p.jobs.map jsv).take m), .ro (p.caps.map iz)] = psv (Pn.part p m) := by simp [psv, Pn.part, List.map_take]
/-- the way of the search -/
def stepF (S : Srch) (k : Nat) (y : List Int) (a : Int) : Option (List Int) := if S.ok (y ++ [a]) = true then dfs S k (y ++ [a]) else none
theorem dfs_succ (S : Srch) (k : Nat) (y : List Int) : dfs S (k + 1) y = scan (stepF S k y) (S.hi y - S.lo y + 1).toNat (S.lo y) := rfl
theorem scan_step {α : Type} {f : Int → Option α} {r : Nat} {a : Int} (h : 0 < r) : scan f r a = match f a with | some x => some x | none => scan f (r - 1) (a + 1) := by
  cases r with
  | zero => omega
  | succ r => rfl
set_option maxRecDepth 10000 in
theorem rStarting_ok (p : Plan) (hp : OK p) (span : Int) (h0 : 0 ≤ span) (h1 : span ≤ 30) : ∀ (k : Nat) (y : List Int), y.length + k = p.jobs.length →
    PureF Tryd.prog 31 [psv p, .ro (y.map iz), iz span] (resSV (dfs (SR p span) k y))
  | k, y, hl => by
    refine pure_enter Tryd.func31 rfl (by simp) (fun C hC => ?_)
    have hn := hp.nj
    simp
    refine ⟨fun he => ?_, fun hne => ?_⟩
    · cases k with
      | zero => simp [dfs, resSV]
      | succ k => omega
    · cases k with
      | zero => omega
      | succ k =>
        have hy : y.length < p.jobs.length := by omega
        obtain ⟨b3, b4, -⟩ := hp.long y.length hy
        have hlo : (SR p span).lo y = 0 := rfl
        have hhi : (SR p span).hi y = span - (jg p.jobs y.length).long := rfl
        rw [dfs_succ, hlo, hhi, Int.sub_zero]
        generalize hL : (jg p.jobs y.length).long = L at *
        refine CodeJ.loop (ι := Int) (fun a => ⟨67, [(1, .ro (y.map iz)), (2, iz span), (3, .ptr 0 0 0), (6, .val (.slice none 0 0)), (7, .val (.bool false)), (8, .val (.int .i64 y.length)), (9, iz a)], [some ⟨2, [psv p], false⟩]⟩)
          (fun a => 0 ≤ a ∧ a ≤ 31 ∧ scan (stepF (SR p span) k y) (span - L - a + 1).toNat a = scan (stepF (SR p span) k y) (span - L + 1).toNat 0) (fun a => (31 - a).toNat) 0 ?_ ?_ ?_
        · simp
        · simp [leS]
        · rintro a ⟨ha0, ha1, hs⟩
          by_cases hlt : a + L ≤ span
          · rw [scan_step (by omega)] at hs
            simp (disch := omega) [lget_jsv, hL, w64]
            refine ⟨by omega, fun _ => ⟨by omega, ⟨by simp [hC], by omega⟩, ?_⟩, fun h => by omega⟩
            rw [show List.map iz y ++ [SV.val (.int .i64 a)] = (y ++ [a]).map iz by simp]
            have hlen : (y ++ [a]).length = y.length + 1 := by simp
            have hst : stepF (SR p span) k y a = if (SR p span).ok (y ++ [a]) = true then dfs (SR p span) k (y ++ [a]) else none := rfl
            rw [hst] at hs
            have g2 := rStarting_ok p hp span h0 h1 k (y ++ [a]) (by rw [hlen]; omega)
            generalize y ++ [a] = z at *
            have htk : List.take (y.length + 1) (List.map iz z) = List.map iz z := List.take_of_length_le (by simp; omega)
            have hpl : (Pn.part p (y.length + 1)).jobs.length = y.length + 1 := by simp [Pn.part]; omega
            have g1 := rEnds_ok (Pn.part p (y.length + 1)) (ok_part hp _) z (by rw [hlen, hpl])
            have hok : (SR p span).ok z = (endsR (Pn.part p (y.length + 1)) z).2 := by show (endsR (Pn.part p z.length) z).2 = _; rw [hlen]
            refine CodeJ.draw (.qs [0, 1, 2, 3, 4, 5, 6, 7] <| .l 8 [] <| .l 9 [3, 1000000] <| .nil) (by kernel_rfl) (by kernel_rfl) (by simp) ?_
            simp (disch := omega) [w64]
            rw [part_sv]
            refine ⟨by omega, callF g1 (by simp [htk, hlen]) ?_⟩
            rw [← hok]
            have nxt : (if (SR p span).ok z = true then dfs (SR p span) k z else none) = none → ∃ j, (0 ≤ j ∧ j ≤ 31 ∧ scan (stepF (SR p span) k y) (span - L - j + 1).toNat j = scan (stepF (SR p span) k y) (span - L + 1).toNat 0) ∧ (31 - j).toNat < (31 - a).toNat ∧ j = a + 1 := fun hn => by
              rw [hn] at hs
              simp only at hs
              exact ⟨a + 1, ⟨by omega, by omega, by rw [← hs]; congr 1; omega⟩, by omega, rfl⟩
            cases hk : (SR p span).ok z with
            | false =>
              obtain ⟨j, n1, n2, rfl⟩ := nxt (by simp [hk])
              simp (disch := omega) [w64]
              exact ⟨a + 1, n1, by omega, by simp (disch := omega) [leS, hC, w64]⟩
            | true =>
              rw [hk, if_pos rfl] at hs nxt
              simp
              refine callF g2 (by simp [htk, hlen]) ?_
              cases hd : dfs (SR p span) k z with
              | some r =>
                rw [hd] at hs
                simp only at hs
                simp [resSV, ← hs]
              | none =>
                obtain ⟨j, n1, n2, rfl⟩ := nxt hd
                simp (disch := omega) [resSV, w64]
                exact ⟨a + 1, n1, by omega, by simp (disch := omega) [leS, hC, w64]⟩
          · rw [show (span - L - a + 1).toNat = 0 by omega] at hs
            simp (disch := omega) [lget_jsv, hL, w64]
            refine ⟨by omega, fun h => by omega, fun _ => ?_⟩
            rw [← hs]
            simp [scan, resSV]
set_option maxRecDepth 10000 in
theorem rLeast_ok (p : Plan) (hp : OK p) {S : Nat} {z : List Int} (hS : IsLeast p S z) : PureF Tryd.prog 17 [psv p] (.tup [.ro (z.map iz), iz S]) := by
  refine pure_enter Tryd.func17 rfl (by simp) (fun C hC => ?_)
  have hle := hS.le
  simp
  refine CodeJ.loop (ι := Nat) (fun s => ⟨20, [(1, .ptr 0 0 0), (4, .val (.int .i64 s))], [some ⟨2, [psv p], false⟩]⟩) (fun s => s ≤ S) (fun s => S - s) 0 ?_ ?_ ?_
  · simp
  · simp [leS]
  · rintro s hs
    have g := rStarting_ok p hp s (by omega) (by omega) p.jobs.length [] (by simp)
    have h30 : (s : Int) ≤ 30 := by omega
    simp [h30]
    refine callF g (by simp) ?_
    rcases Nat.lt_or_ge s S with h | h
    · rw [hS.none s h]
      simp (disch := omega) [resSV, w64]
      exact ⟨s + 1, by omega, by omega, by simp [leS, hC]⟩
    · obtain rfl : s = S := by omega
      rw [hS.here]
      simp [resSV]
theorem ig_ext {a b : List Int} (h : a.length = b.length) (hi : ∀ i, i < a.length → ig a i = ig b i) : a = b := by
  apply List.ext_getElem h
  intro i h1 h2
  have := hi i h1
  rwa [ig_eq h1, ig_eq h2] at this
set_option maxRecDepth 10000 in
theorem sameInts_ok (a b : List Int) (ha : a.length ≤ 140737488351232) (hb : b.length ≤ 140737488351232) : PureF Tryd.prog 16 [.ro (a.map iz), .ro (b.map iz)] (.val (.bool (decide (a = b)))) := by
  refine pure_enter Tryd.func16 rfl (by simp) (fun C hC => ?_)
  simp
  refine ⟨fun hne => ?_, fun he => ?_⟩
  · intro h; subst h; exact hne rfl
  · have hl : a.length = b.length := by omega
    refine CodeJ.loop (ι := Nat) (fun i => ⟨26, [(0, .ro (a.map iz)), (1, .ro (b.map iz)), (5, .val (.int .i64 i))], []⟩) (fun i => i ≤ a.length ∧ ∀ k, k < i → ig a k = ig b k) (fun i => a.length - i) 0 ?_ ?_ ?_
    · simp
    · simp [leS]
    · rintro i ⟨hi, hq⟩
      by_cases hlt : i < a.length
      · simp (disch := omega) [hlt]
        refine CodeJ.draw (.qs [0, 1, 2, 3, 4, 5, 6, 7, 8] <| .nil) (by kernel_rfl) (by kernel_rfl) (by simp) ?_
        simp (disch := omega) [lget_iz, w64]
        refine ⟨hlt, by omega, fun hne he => hne (by rw [he]), fun heq => ⟨i + 1, ⟨by omega, fun k hk => ?_⟩, by omega, by simp (disch := omega) [leS, hC, w64]⟩⟩
        rcases Nat.lt_or_ge k i with h | h
        · exact hq k h
        · obtain rfl : k = i := by omega
          exact heq
      · obtain rfl : i = a.length := by omega
        simp
        exact ig_ext hl hq
end Go.Proofs
