/- errors.Is and errors.As of a bare error, by contract; plain.Code of one, and of nothing. A text of the prover's own. -/
import Derived.Test.YtlkaaaoeemejoaaGreatDoorQEr
import Derived.Test.YtlkaaaoeemejoaaGreatDoorQEo
namespace Go.Proofs
open Go.Sv Go Go.RowKit
def gs (i : Nat) : Nat := [3, 1, 4, 0, 5, 6, 2, 7, 8, 9].getD i 0
def gsL : List SV := [.sen sent 3, .sen sent 1, .sen sent 4, .sen sent 0, .sen sent 5, .sen sent 6, .sen sent 2, .sen sent 7, .sen sent 8, .sen sent 9]
theorem gs_at : ∀ i : Nat, i < 10 → lget gsL i = .sen sent (gs i)
  | 0, _ | 1, _ | 2, _ | 3, _ | 4, _ | 5, _ | 6, _ | 7, _ | 8, _ | 9, _ => rfl
  | n + 10, h => absurd h (by omega)
theorem gs_sens : ∀ i : Nat, i < 10 → sens.contains (gs i) = true
  | 0, _ | 1, _ | 2, _ | 3, _ | 4, _ | 5, _ | 6, _ | 7, _ | 8, _ | 9, _ => rfl
  | n + 10, h => absurd h (by omega)
set_option maxRecDepth 20000 in
theorem codeN_ok : PureF Tryz.prog 76 [.val .nilIface] (.tup [.val (.int .i64 0), .val (.int .i64 (-1))]) := by
  refine pure_enter Tryz.func76 rfl (by simp) (fun C hC => ?_)
  simp
theorem isS_ok {g g' : Nat} (hg : sens.contains g = true) (hg' : sens.contains g' = true) : PureE Tryz.prog 140 [.sen sent g, .sen sent g'] (fun x => x = .val (.bool (decide (g = g')))) := by
  intro H w vals hi hE hd
  simp only [DenT, Den] at hd
  obtain ⟨v1, r1, rfl, ⟨q, hq, rfl⟩, v2, r2, rfl, ⟨q2, hq2, rfl⟩, rfl⟩ := hd
  obtain ⟨ca, ta, ha⟩ := sen_at hi hE hg hq
  obtain ⟨cb, tb, hb2⟩ := sen_at hi hE hg' hq2
  have hfin : ∀ x : Bool, (decide (g = g') = x) → (Calls Tryz.prog 140 #[.iface 344 (.pointer (some q)), .iface 344 (.pointer (some q2))] w fun e w' => e = .returned (.bool x) ∧ w' = w) → Calls Tryz.prog 140 [Value.iface sent (Value.pointer (some q)), Value.iface sent (Value.pointer (some q2))].toArray w fun e w' =>
      ∃ H' v x, e = .returned v ∧ Den noB H' x v ∧ x = .val (.bool (decide (g = g'))) ∧ (∀ b cs, H b = some cs → H' b = some cs) ∧ (∀ b cs, H' b = some cs → H b = some cs ∨ w.heap.size ≤ b) ∧ InvH H' w' ∧ Below w.heap.size w w' := by
    intro x hx h
    refine Calls.mono h ?_
    rintro e w' ⟨rfl, rfl⟩
    exact ⟨H, _, _, rfl, by simp only [Den]; exact ⟨by rw [hx], rfl⟩, rfl, fun _ _ h => h, fun _ _ h => .inl h, hi, Below.refl _ _⟩
  by_cases e : g = g'
  · subst e
    rw [hq] at hq2
    simp only [Option.some.injEq, Array.mk.injEq, List.cons.injEq, Value.iface.injEq, Value.pointer.injEq, and_true, true_and] at hq2
    subst hq2
    exact hfin true (by simp) (is_same q w)
  · have hne : q ≠ q2 := fun h => by
      subst h
      have g1 : gl g = some (.sen sent g) := by unfold gl; rw [if_pos hg]
      have g2 : gl g' = some (.sen sent g') := by unfold gl; rw [if_pos hg']
      exact hi.2.ne _ _ _ _ g1 g2 e (by rw [hq, hq2])
    exact hfin false (by simp [e]) (is_other q q2 ca cb ta tb w hne ha hb2)
theorem asS_call {C : Ctx} {g k : Nat} {M : Tab} {K : Tab → List Nat → SV → Prop} (hE : EOK C.w0) (hX : C.X = []) (hk : K M [] (.val (.bool false))) :
    CallJ Tryz.prog C 141 [.sen sent g, .ifc 261 (.ptr k 0 0)] M none K := by
  intro β H w vals hd hW
  simp only [DenT, Den] at hd
  obtain ⟨v1, r1, rfl, ⟨q, hq, rfl⟩, v2, r2, rfl, ⟨p2, rfl, d, hd, rfl⟩, rfl⟩ := hd
  have hEw : EOK w := hE.frame fun b hb => hW.frame b hb (by rw [hX]; simp)
  refine Calls.mono (as_other q ⟨d.b, 0 * d.sz + 0, none⟩ w hEw.2) ?_
  generalize hw1 : (((w.alloc (.cells #[.pointer (some ⟨d.b, 0 * d.sz + 0, none⟩)] 261)).alloc (.cells #[.pointer (some ⟨11, 261, none⟩), .pointer (some ⟨w.heap.size, 0, none⟩), .int .u64 150] 305)).alloc (.cells #[.pointer (some ⟨11, 261, none⟩), .pointer (some ⟨w.heap.size, 0, none⟩), .int .u64 150] 305)) = w1
  have hB : Below w.heap.size w w1 := by
    rw [← hw1]
    exact (((Below.refl _ _).alloc (Nat.le_refl _) _).alloc (by simp) _).alloc (by simp; omega) _
  rintro e w' ⟨rfl, rfl⟩
  have hi1 : InvH H w' := ⟨fun b' cs' hb' => by
    obtain ⟨T', z', h⟩ := hW.inv b' cs' hb'
    exact ⟨T', z', by rw [hB.block b' (heap_lt h)]; exact h⟩, hW.glob⟩
  exact ⟨β, H, _, _, _, [], rfl, by simp [Den, Value.oneCell'], hW.after hB (fun _ _ h => h) (fun _ _ h => .inl h) hi1, fun _ _ _ h => h, fun _ _ h => h, hk, hB.size, fun ks h => by cases h⟩
theorem gs_eq2 : ∀ i, i < 10 → ∀ j, j < 10 → (gs j = gs i ↔ i = j) := by decide
theorem gs_eq (i j : Nat) (hi : i < 10) (hj : j < 10) : gs j = gs i ↔ i = j := gs_eq2 i hi j hj
set_option maxRecDepth 20000 in
theorem codeS_ok {j : Nat} (hj : j < 10) : PureE Tryz.prog 76 [.sen sent (gs j)] (fun x => x = .tup [.val (.int .i64 (j + 1 : Nat)), .val (.int .i64 (-1))]) := by
  refine pureE_enter Tryz.func76 rfl (by simp) (fun C hC hX hE => ?_)
  refine CodeJ.go ?_
  simp
  have hlen : gsL.length = 10 := rfl
  refine CodeJ.loop (ι := Nat) (fun i => ⟨51, [(0, .sen sent (gs j)), (4, .val (.int .i64 (if i < j + 1 then 0 else j + 1 : Nat))), (20, .view 0 0 10), (21, .val (.int .i64 10)), (22, .val (.int .i64 i))], [some ⟨1, gsL, false⟩]⟩)
    (fun i => i ≤ 10) (fun i => 10 - i) 0 ?_ ?_ ?_
  · exact Nat.zero_le _
  · simp [leS, hC, gsL]
  · rintro i hi
    by_cases h : i < 10
    · have hI : (i : Int) < 10 := by omega
      have e1 := gs_at i h
      have e2 := gs_eq i j h hj
      have is := isS_ok (gs_sens j hj) (gs_sens i h)
      simp only [e2] at is
      simp (disch := omega) [hI, e1, hlen]
      refine ⟨h, callE is hE hX (by simp) (fun x hx => ?_)⟩
      subst hx
      by_cases hic : i = j
      · subst hic
        simp (disch := omega) [w64]
        refine ⟨i + 1, by omega, by omega, ?_⟩
        simp [leS, hC]
      · have h4 : (if i + 1 < j + 1 then 0 else j + 1) = (if i < j + 1 then 0 else j + 1) := by
          by_cases h1 : i < j
          · rw [if_pos (by omega), if_pos (by omega)]
          · rw [if_neg (by omega), if_neg (by omega)]
        simp (disch := omega) [hic, w64]
        refine ⟨i + 1, by omega, by omega, ?_⟩
        rw [h4]
        simp [leS, hC]
    · obtain rfl : i = 10 := by omega
      have hcn : ¬ 10 < j + 1 := by omega
      have hj1 : ¬ (j : Int) + 1 = 0 := by omega
      simp only [if_neg hcn]
      simp [hj1]
      refine asS_call hE hX ?_
      simp

