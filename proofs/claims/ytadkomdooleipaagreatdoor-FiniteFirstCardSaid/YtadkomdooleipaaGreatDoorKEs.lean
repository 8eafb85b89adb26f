/- Contracts that also use what the listed errors' own blocks are. errors.Is and errors.As of a bare error, by contract; plain.Code of one, and of nothing. A text of the prover's own. -/
import Derived.Test.YtadkomdooleipaaGreatDoorKPl
import Derived.Test.YtadkomdooleipaaGreatDoorKVz
import Derived.Test.YtadkomdooleipaaGreatDoorKTy
import Derived.Test.YtadkomdooleipaaGreatDoorKEj
import Derived.Test.YtadkomdooleipaaGreatDoorKEo
namespace Go.Sv
open Go Go.RowKit
/-- each listed error stands in a block of its own that is not kept from writing; errors.errorType holds the type error -/
def EOK (w : World) : Prop := (∀ g, sens.contains g = true → ∃ (a : Addr) (T : TypeId) (z : Nat × Nat) (cs : Array Value) (T' : TypeId), w.heap[g]? = some (.cells #[.iface sent (.pointer (some a))] T z) ∧ w.heap[a.block]? = some (.cells cs T' (0, 0))) ∧
  w.cell? ⟨10, 0, none⟩ = some (.iface 100 (.agg #[.pointer (some ⟨11, 28, none⟩)]))
theorem EOK.frame {w w' : World} (h : EOK w) (hb : ∀ b, b < w.heap.size → w'.heap[b]? = w.heap[b]?) : EOK w' := by
  have lt : ∀ (b : Nat) x, w.heap[b]? = some x → b < w.heap.size := fun b x hx => (Array.getElem?_eq_some_iff.1 hx).1
  refine ⟨fun g hg => ?_, ?_⟩
  · obtain ⟨a, T, z, cs, T', h1, h2⟩ := h.1 g hg
    exact ⟨a, T, z, cs, T', by rw [hb g (lt g _ h1)]; exact h1, by rw [hb _ (lt _ _ h2)]; exact h2⟩
  · have h2 := h.2
    have hlt : 10 < w.heap.size := by
      rcases Nat.lt_or_ge 10 w.heap.size with h | h
      · exact h
      · simp [World.cell?, Array.getElem?_eq_none h] at h2
    unfold World.cell? at h2 ⊢
    rw [hb 10 hlt]
    exact h2
/-- as PureC, in a world where EOK holds -/
def PureE (P : Program) (f : FuncId) (args : List SV) (Φ : SV → Prop) : Prop :=
  ∀ (H : Hp) (w : World) (vals : List Value), InvH H w → EOK w → DenT noB H args vals → Calls P f vals.toArray w fun e w' =>
    ∃ H' v x, e = .returned v ∧ Den noB H' x v ∧ Φ x ∧ (∀ b cs, H b = some cs → H' b = some cs) ∧ (∀ b cs, H' b = some cs → H b = some cs ∨ w.heap.size ≤ b) ∧ InvH H' w' ∧ Below w.heap.size w w'
section
variable {P : Program}
theorem callE {C : Ctx} {f : FuncId} {args : List SV} {Φ : SV → Prop} {M : Tab} {W : Option (List Nat)} {K : Tab → List Nat → SV → Prop} (h : PureE P f args Φ) (hE : EOK C.w0) (hX : C.X = []) (hp : SV.pureL args = true) (hk : ∀ x, Φ x → K M [] x) : CallJ P C f args M W K := by
  intro β H w vals hd hW
  have hs := SubL_self M args hp
  obtain ⟨H1, h1, h2, h3⟩ := fzL_ok (SV.ksL args) hW (SubL_pure hs)
  have hd' := SubL_denT h2 hs ⟨fun k e he hk => by
    obtain ⟨e', g1, g2, -, g4⟩ := h3 k e he
    exact ⟨e', g1, g2, g4 (.inr hk)⟩⟩ (DenT.mono h1 _ _ (fun _ _ _ h => h) hd)
  have hEw : EOK w := hE.frame fun b hb => hW.frame b hb (by rw [hX]; simp)
  refine Calls.mono (h H1 w vals h2.invH hEw hd') ?_
  rintro e w' ⟨H', v, x, rfl, g1, g2, g3, g4, g5, g6⟩
  refine ⟨β, H', _, v, x, [], rfl, Den.up g1 (fun k d hd => by simp [noB] at hd) (fun _ _ h => h), h2.after g6 g3 g4 g5, fun _ _ _ h => h, fun b cs hb => g3 b cs (h1 b cs hb), ?_, g6.size, fun ks _ => ⟨rfl, fun b hb _ => g6.block b hb⟩⟩
  rw [ksL_pure args hp]
  exact hk x g2
theorem pureE_enter {f : FuncId} {fn : Func} {c : Code} {args : List SV} {Φ : SV → Prop} (hf : P.funcs[f]? = some fn) (hb : fn.body = some c) (hn : args.length ≤ fn.ntmps)
    (h : ∀ C : Ctx, C.fx = [] → C.X = [] → EOK C.w0 → CodeJ P C c ⟨fn.ntmps, argFr 0 args, []⟩ (retQ P fn.results.toList Φ)) : PureE P f args Φ := by
  intro H w vals hi hE hd
  refine calls_of_wp hf hb ?_
  have hj := h ⟨w, H, [], noB, []⟩ rfl rfl hE
  refine wp_mono (hj _ w ⟨noB, H, arg_fok hd hn hi.2 rfl (by simp), ?_⟩) ?_
  · exact ⟨rfl, rfl, rfl, Nat.le_refl _, fun _ _ _ => rfl, fun _ _ h => h, fun _ _ h => .inl h, hi.1, fun k e hk => by simp at hk, fun k e d hk => by simp at hk, fun k k' e e' d d' hk => by simp at hk, fun _ _ => rfl, (fun k d hk => by cases hk), hi.2⟩
  · rintro e a w' ⟨st, hq, β, H', hF, hW⟩
    have key : (match retSV P st fn.results.toList with | some (c, x) => c ∧ ∃ y, Sub st.M x y ∧ Φ y | none => False) →
        a.defers = [] ∧ ∃ v, (results fn a.tmps).run P w' = .ok v w' ∧ ∃ H' v' x, Ending.returned v = .returned v' ∧ Den noB H' x v' ∧ Φ x ∧ (∀ b cs, H b = some cs → H' b = some cs) ∧ (∀ b cs, H' b = some cs → H b = some cs ∨ w.heap.size ≤ b) ∧ InvH H' w' ∧ Below w.heap.size w w' := by
      intro hq
      refine ⟨hF.1.1, ?_⟩
      split at hq
      · rename_i c' x hr
        obtain ⟨hc, y, hs, hΦ⟩ := hq
        obtain ⟨v, hv1, hv2⟩ := ret_ok hF hW hr hc
        obtain ⟨H1, h1, h2, h3⟩ := fzL_ok x.ks hW (Sub_pure hs)
        have hd' := Sub_den h2 hs ⟨fun k e he hk => by
          obtain ⟨e', g1, g2, -, g4⟩ := h3 k e he
          exact ⟨e', g1, g2, g4 (.inr hk)⟩⟩ (Den.up hv2 (fun _ _ h => h) h1)
        exact ⟨v, hv1, H1, v, y, rfl, hd', hΦ, h2.ext, fun b cs hb => (h2.new b cs hb).imp id (fun h => h.resolve_right (by simp)), h2.invH, h2.os, h2.tape, h2.output, h2.size, fun k hk => h2.frame k hk (by simp)⟩
      · exact hq.elim
    cases e <;> simp only [retQ] at hq <;> simp only [bodyPost]
    case normal => exact key hq
    case ret => exact key hq
end
end Go.Sv
namespace Go.Proofs
open Go.Sv Go Go.RowKit
/-- where a listed error's own block is -/
theorem sen_at {H : Hp} {w : World} (hi : InvH H w) (hE : EOK w) {g : Nat} (hg : sens.contains g = true) {b : Addr} (h : H g = some #[.iface sent (.pointer (some b))]) : ∃ cs T', w.heap[b.block]? = some (.cells cs T' (0, 0)) := by
  obtain ⟨a, T, z, cs, T', h1, h2⟩ := hE.1 g hg
  obtain ⟨T2, z2, h3⟩ := hi.1 _ _ h
  rw [h1] at h3
  simp only [Option.some.injEq, Obj.cells.injEq, Array.mk.injEq, List.cons.injEq, Value.iface.injEq, Value.pointer.injEq, and_true, true_and] at h3
  rw [← h3.1]
  exact ⟨cs, T', h2⟩
end Go.Proofs
namespace Go.Proofs
open Go.Sv Go Go.RowKit
def gs (i : Nat) : Nat := [2, 1, 3, 0, 4, 5, 6, 7, 8, 9].getD i 0
def gsL : List SV := [.sen sent 2, .sen sent 1, .sen sent 3, .sen sent 0, .sen sent 4, .sen sent 5, .sen sent 6, .sen sent 7, .sen sent 8, .sen sent 9]
theorem gs_at : ∀ i : Nat, i < 10 → lget gsL i = .sen sent (gs i)
  | 0, _ | 1, _ | 2, _ | 3, _ | 4, _ | 5, _ | 6, _ | 7, _ | 8, _ | 9, _ => rfl
  | n + 10, h => absurd h (by omega)
theorem gs_sens : ∀ i : Nat, i < 10 → sens.contains (gs i) = true
  | 0, _ | 1, _ | 2, _ | 3, _ | 4, _ | 5, _ | 6, _ | 7, _ | 8, _ | 9, _ => rfl
  | n + 10, h => absurd h (by omega)
set_option maxRecDepth 20000 in
theorem codeN_ok : PureF Tryz.prog 18 [.val .nilIface] (.tup [.val (.int .i64 0), .val (.int .i64 (-1))]) := by
  refine pure_enter Tryz.func18 rfl (by simp) (fun C hC => ?_)
  simp
theorem isS_ok {g g' : Nat} (hg : sens.contains g = true) (hg' : sens.contains g' = true) : PureE Tryz.prog 27 [.sen sent g, .sen sent g'] (fun x => x = .val (.bool (decide (g = g')))) := by
  intro H w vals hi hE hd
  simp only [DenT, Den] at hd
  obtain ⟨v1, r1, rfl, ⟨q, hq, rfl⟩, v2, r2, rfl, ⟨q2, hq2, rfl⟩, rfl⟩ := hd
  obtain ⟨ca, ta, ha⟩ := sen_at hi hE hg hq
  obtain ⟨cb, tb, hb2⟩ := sen_at hi hE hg' hq2
  have hfin : ∀ x : Bool, (decide (g = g') = x) → (Calls Tryz.prog 27 #[.iface 139 (.pointer (some q)), .iface 139 (.pointer (some q2))] w fun e w' => e = .returned (.bool x) ∧ w' = w) → Calls Tryz.prog 27 [Value.iface sent (Value.pointer (some q)), Value.iface sent (Value.pointer (some q2))].toArray w fun e w' =>
      ∃ H' v x, e = .returned v ∧ Den noB H' x v ∧ x = .val (.bool (decide (g = g'))) ∧ (∀ b cs, H b = some cs → H' b = some cs) ∧ (∀ b cs, H' b = some cs → H b = some cs ∨ w.heap.size ≤ b) ∧ InvH H' w' ∧ Below w.heap.size w w' := by
    intro x hx h
    refine Calls.mono h ?_
    rintro e w' ⟨rfl, rfl⟩
    exact ⟨H, _, _, rfl, by simp only [Den]; exact ⟨by rw [hx], rfl⟩, rfl, fun _ _ h => h, fun _ _ h => .inl h, hi, Below.refl _ _⟩
  by_cases e : g = g'
  · subst e
    rw [hq] at hq2
    simp only [Option.some.injEq, Array.mk.injEq, List.cons.injEq, Value.iface.injEq, Value.pointer.injEq, and_true, true_and] at hq2
    subst hq2
    exact hfin true (by simp) (is_same q w)
  · have hne : q ≠ q2 := fun h => by
      subst h
      have g1 : gl g = some (.sen sent g) := by unfold gl; rw [if_pos hg]
      have g2 : gl g' = some (.sen sent g') := by unfold gl; rw [if_pos hg']
      exact hi.2.ne _ _ _ _ g1 g2 e (by rw [hq, hq2])
    exact hfin false (by simp [e]) (is_other q q2 ca cb ta tb w hne ha hb2)
theorem asS_call {C : Ctx} {g k : Nat} {M : Tab} {K : Tab → List Nat → SV → Prop} (hE : EOK C.w0) (hX : C.X = []) (hk : K M [] (.val (.bool false))) :
    CallJ Tryz.prog C 28 [.sen sent g, .ifc 66 (.ptr k 0 0)] M none K := by
  intro β H w vals hd hW
  simp only [DenT, Den] at hd
  obtain ⟨v1, r1, rfl, ⟨q, hq, rfl⟩, v2, r2, rfl, ⟨p2, rfl, d, hd, rfl⟩, rfl⟩ := hd
  have hEw : EOK w := hE.frame fun b hb => hW.frame b hb (by rw [hX]; simp)
  refine Calls.mono (as_other q ⟨d.b, 0 * d.sz + 0, none⟩ w hEw.2) ?_
  generalize hw1 : (((w.alloc (.cells #[.pointer (some ⟨d.b, 0 * d.sz + 0, none⟩)] 66)).alloc (.cells #[.pointer (some ⟨11, 66, none⟩), .pointer (some ⟨w.heap.size, 0, none⟩), .int .u64 150] 83)).alloc (.cells #[.pointer (some ⟨11, 66, none⟩), .pointer (some ⟨w.heap.size, 0, none⟩), .int .u64 150] 83)) = w1
  have hB : Below w.heap.size w w1 := by
    rw [← hw1]
    exact (((Below.refl _ _).alloc (Nat.le_refl _) _).alloc (by simp) _).alloc (by simp; omega) _
  rintro e w' ⟨rfl, rfl⟩
  have hi1 : InvH H w' := ⟨fun b' cs' hb' => by
    obtain ⟨T', z', h⟩ := hW.inv b' cs' hb'
    exact ⟨T', z', by rw [hB.block b' (heap_lt h)]; exact h⟩, hW.glob⟩
  exact ⟨β, H, _, _, _, [], rfl, by simp [Den, Value.oneCell'], hW.after hB (fun _ _ h => h) (fun _ _ h => .inl h) hi1, fun _ _ _ h => h, fun _ _ h => h, hk, hB.size, fun ks h => by cases h⟩
theorem gs_eq2 : ∀ i, i < 10 → ∀ j, j < 10 → (gs j = gs i ↔ i = j) := by decide
theorem gs_eq (i j : Nat) (hi : i < 10) (hj : j < 10) : gs j = gs i ↔ i = j := gs_eq2 i hi j hj
set_option maxRecDepth 20000 in
theorem codeS_ok {j : Nat} (hj : j < 10) : PureE Tryz.prog 18 [.sen sent (gs j)] (fun x => x = .tup [.val (.int .i64 (j + 1 : Nat)), .val (.int .i64 (-1))]) := by
  refine pureE_enter Tryz.func18 rfl (by simp) (fun C hC hX hE => ?_)
  refine CodeJ.go ?_
  simp
  have hlen : gsL.length = 10 := rfl
  refine CodeJ.loop (ι := Nat) (fun i => ⟨51, [(0, .sen sent (gs j)), (4, .val (.int .i64 (if i < j + 1 then 0 else j + 1 : Nat))), (20, .view 0 0 10), (21, .val (.int .i64 10)), (22, .val (.int .i64 i))], [some ⟨1, gsL, false⟩]⟩)
    (fun i => i ≤ 10) (fun i => 10 - i) 0 ?_ ?_ ?_
  · exact Nat.zero_le _
  · simp [leS, hC, gsL]
  · rintro i hi
    by_cases h : i < 10
    · have hI : (i : Int) < 10 := by omega
      have e1 := gs_at i h
      have e2 := gs_eq i j h hj
      have is := isS_ok (gs_sens j hj) (gs_sens i h)
      simp only [e2] at is
      simp (disch := omega) [hI, e1, hlen]
      refine ⟨h, callE is hE hX (by simp) (fun x hx => ?_)⟩
      subst hx
      by_cases hic : i = j
      · subst hic
        simp (disch := omega) [w64]
        refine ⟨i + 1, by omega, by omega, ?_⟩
        simp [leS, hC]
      · have h4 : (if i + 1 < j + 1 then 0 else j + 1) = (if i < j + 1 then 0 else j + 1) := by
          by_cases h1 : i < j
          · rw [if_pos (by omega), if_pos (by omega)]
          · rw [if_neg (by omega), if_neg (by omega)]
        simp (disch := omega) [hic, w64]
        refine ⟨i + 1, by omega, by omega, ?_⟩
        rw [h4]
        simp [leS, hC]
    · obtain rfl : i = 10 := by omega
      have hcn : ¬ 10 < j + 1 := by omega
      have hj1 : ¬ (j : Int) + 1 = 0 := by omega
      simp only [if_neg hcn]
      simp [hj1]
      refine asS_call hE hX ?_
      simp

