/- Contracts that also use what the listed errors' own blocks are. A text of the prover's own. -/
import Derived.Test.YtlkaaaoeemejoaaGreatDoorQVs
import Derived.Test.YtlkaaaoeemejoaaGreatDoorQVz
import Derived.Test.YtlkaaaoeemejoaaGreatDoorQNm
import Derived.Test.YtlkaaaoeemejoaaGreatDoorQTy
import Derived.Test.YtlkaaaoeemejoaaGreatDoorQEi
namespace Go.Sv
open Go Go.RowKit
/-- each listed error stands in a block of its own that is not kept from writing; errors.errorType holds the type error -/
def EOK (w : World) : Prop := (∀ g, sens.contains g = true → ∃ (a : Addr) (T : TypeId) (z : Nat × Nat) (cs : Array Value) (T' : TypeId), w.heap[g]? = some (.cells #[.iface sent (.pointer (some a))] T z) ∧ w.heap[a.block]? = some (.cells cs T' (0, 0))) ∧
  w.cell? ⟨10, 0, none⟩ = some (.iface 321 (.agg #[.pointer (some ⟨11, 36, none⟩)]))
theorem EOK.frame {w w' : World} (h : EOK w) (hb : ∀ b, b < w.heap.size → w'.heap[b]? = w.heap[b]?) : EOK w' := by
  have lt : ∀ (b : Nat) x, w.heap[b]? = some x → b < w.heap.size := fun b x hx => (Array.getElem?_eq_some_iff.1 hx).1
  refine ⟨fun g hg => ?_, ?_⟩
  · obtain ⟨a, T, z, cs, T', h1, h2⟩ := h.1 g hg
    exact ⟨a, T, z, cs, T', by rw [hb g (lt g _ h1)]; exact h1, by rw [hb _ (lt _ _ h2)]; exact h2⟩
  · have h2 := h.2
    have hlt : 10 < w.heap.size := by
      rcases Nat.lt_or_ge 10 w.heap.size with h | h
      · exact h
      · simp [World.cell?, Array.getElem?_eq_none h] at h2
    unfold World.cell? at h2 ⊢
    rw [hb 10 hlt]
    exact h2
/-- as PureC, in a world where EOK holds -/
def PureE (P : Program) (f : FuncId) (args : List SV) (Φ : SV → Prop) : Prop :=
  ∀ (H : Hp) (w : World) (vals : List Value), InvH H w → EOK w → DenT noB H args vals → Calls P f vals.toArray w fun e w' =>
    ∃ H' v x, e = .returned v ∧ Den noB H' x v ∧ Φ x ∧ (∀ b cs, H b = some cs → H' b = some cs) ∧ (∀ b cs, H' b = some cs → H b = some cs ∨ w.heap.size ≤ b) ∧ InvH H' w' ∧ Below w.heap.size w w'
section
variable {P : Program}
theorem callE {C : Ctx} {f : FuncId} {args : List SV} {Φ : SV → Prop} {M : Tab} {W : Option (List Nat)} {K : Tab → List Nat → SV → Prop} (h : PureE P f args Φ) (hE : EOK C.w0) (hX : C.X = []) (hp : SV.pureL args = true) (hk : ∀ x, Φ x → K M [] x) : CallJ P C f args M W K := by
  intro β H w vals hd hW
  have hs := SubL_self M args hp
  obtain ⟨H1, h1, h2, h3⟩ := fzL_ok (SV.ksL args) hW (SubL_pure hs)
  have hd' := SubL_denT h2 hs ⟨fun k e he hk => by
    obtain ⟨e', g1, g2, -, g4⟩ := h3 k e he
    exact ⟨e', g1, g2, g4 (.inr hk)⟩⟩ (DenT.mono h1 _ _ (fun _ _ _ h => h) hd)
  have hEw : EOK w := hE.frame fun b hb => hW.frame b hb (by rw [hX]; simp)
  refine Calls.mono (h H1 w vals h2.invH hEw hd') ?_
  rintro e w' ⟨H', v, x, rfl, g1, g2, g3, g4, g5, g6⟩
  refine ⟨β, H', _, v, x, [], rfl, Den.up g1 (fun k d hd => by simp [noB] at hd) (fun _ _ h => h), h2.after g6 g3 g4 g5, fun _ _ _ h => h, fun b cs hb => g3 b cs (h1 b cs hb), ?_, g6.size, fun ks _ => ⟨rfl, fun b hb _ => g6.block b hb⟩⟩
  rw [ksL_pure args hp]
  exact hk x g2
theorem pureE_enter {f : FuncId} {fn : Func} {c : Code} {args : List SV} {Φ : SV → Prop} (hf : P.funcs[f]? = some fn) (hb : fn.body = some c) (hn : args.length ≤ fn.ntmps)
    (h : ∀ C : Ctx, C.fx = [] → C.X = [] → EOK C.w0 → CodeJ P C c ⟨fn.ntmps, argFr 0 args, []⟩ (retQ P fn.results.toList Φ)) : PureE P f args Φ := by
  intro H w vals hi hE hd
  refine calls_of_wp hf hb ?_
  have hj := h ⟨w, H, [], noB, []⟩ rfl rfl hE
  refine wp_mono (hj _ w ⟨noB, H, arg_fok hd hn hi.2 rfl (by simp), ?_⟩) ?_
  · exact ⟨rfl, rfl, rfl, Nat.le_refl _, fun _ _ _ => rfl, fun _ _ h => h, fun _ _ h => .inl h, hi.1, fun k e hk => by simp at hk, fun k e d hk => by simp at hk, fun k k' e e' d d' hk => by simp at hk, fun _ _ => rfl, (fun k d hk => by cases hk), hi.2⟩
  · rintro e a w' ⟨st, hq, β, H', hF, hW⟩
    have key : (match retSV P st fn.results.toList with | some (c, x) => c ∧ ∃ y, Sub st.M x y ∧ Φ y | none => False) →
        a.defers = [] ∧ ∃ v, (results fn a.tmps).run P w' = .ok v w' ∧ ∃ H' v' x, Ending.returned v = .returned v' ∧ Den noB H' x v' ∧ Φ x ∧ (∀ b cs, H b = some cs → H' b = some cs) ∧ (∀ b cs, H' b = some cs → H b = some cs ∨ w.heap.size ≤ b) ∧ InvH H' w' ∧ Below w.heap.size w w' := by
      intro hq
      refine ⟨hF.1.1, ?_⟩
      split at hq
      · rename_i c' x hr
        obtain ⟨hc, y, hs, hΦ⟩ := hq
        obtain ⟨v, hv1, hv2⟩ := ret_ok hF hW hr hc
        obtain ⟨H1, h1, h2, h3⟩ := fzL_ok x.ks hW (Sub_pure hs)
        have hd' := Sub_den h2 hs ⟨fun k e he hk => by
          obtain ⟨e', g1, g2, -, g4⟩ := h3 k e he
          exact ⟨e', g1, g2, g4 (.inr hk)⟩⟩ (Den.up hv2 (fun _ _ h => h) h1)
        exact ⟨v, hv1, H1, v, y, rfl, hd', hΦ, h2.ext, fun b cs hb => (h2.new b cs hb).imp id (fun h => h.resolve_right (by simp)), h2.invH, h2.os, h2.tape, h2.output, h2.size, fun k hk => h2.frame k hk (by simp)⟩
      · exact hq.elim
    cases e <;> simp only [retQ] at hq <;> simp only [bodyPost]
    case normal => exact key hq
    case ret => exact key hq
end
end Go.Sv
namespace Go.Proofs
open Go.Sv Go Go.RowKit
/-- where a listed error's own block is -/
theorem sen_at {H : Hp} {w : World} (hi : InvH H w) (hE : EOK w) {g : Nat} (hg : sens.contains g = true) {b : Addr} (h : H g = some #[.iface sent (.pointer (some b))]) : ∃ cs T', w.heap[b.block]? = some (.cells cs T' (0, 0)) := by
  obtain ⟨a, T, z, cs, T', h1, h2⟩ := hE.1 g hg
  obtain ⟨T2, z2, h3⟩ := hi.1 _ _ h
  rw [h1] at h3
  simp only [Option.some.injEq, Obj.cells.injEq, Array.mk.injEq, List.cons.injEq, Value.iface.injEq, Value.pointer.injEq, and_true, true_and] at h3
  rw [← h3.1]
  exact ⟨cs, T', h2⟩
end Go.Proofs

