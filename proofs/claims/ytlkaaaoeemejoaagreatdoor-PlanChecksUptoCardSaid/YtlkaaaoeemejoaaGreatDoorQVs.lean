/- Code cut in two: what is known behind the first part is told by a family of states. A text of the prover's own; it names no program. -/
import Derived.Test.YtlkaaaoeemejoaaGreatDoorQVz
namespace Go.Sv
open Go Go.RowKit
/-- no code of which anything can be shown -/
def noCode : Code := .cond (.const .nilIface) .skip .skip
/-- the first n parts -/
def takeC : Nat → Code → Code
  | 0, _ => .skip
  | n + 1, .seq x y => .seq x (takeC n y)
  | _ + 1, _ => noCode
/-- what stands behind them -/
def dropC : Nat → Code → Code
  | 0, c => c
  | n + 1, .seq _ y => dropC n y
  | _ + 1, c => c
@[simp] theorem takeC_zero (c : Code) : takeC 0 c = .skip := by cases c <;> rfl
@[simp] theorem takeC_succ (n : Nat) (x y : Code) : takeC (n + 1) (.seq x y) = .seq x (takeC n y) := rfl
@[simp] theorem dropC_zero (c : Code) : dropC 0 c = c := by cases c <;> rfl
@[simp] theorem dropC_succ (n : Nat) (x y : Code) : dropC (n + 1) (.seq x y) = dropC n y := rfl
section
variable {P : Program} {C : Ctx} {st : St} {Q : Post}
/-- behind a piece of code a state of the family, or out of it as Q says -/
def cutQ (C : Ctx) (I : St → Prop) (Q : Post) : Post := thn (fun st' => ∃ st'', I st'' ∧ leS C st' st'') Q
@[simp] theorem cutQ_normal {I : St → Prop} : cutQ C I Q .normal st = ∃ st'', I st'' ∧ leS C st st'' := rfl
@[simp] theorem cutQ_ret {I : St → Prop} : cutQ C I Q .ret st = Q .ret st := rfl
@[simp] theorem cutQ_exit {I : St → Prop} {i : Nat} : cutQ C I Q (.exit i) st = Q (.exit i) st := rfl
@[simp] theorem cutQ_panic {I : St → Prop} {c : List PanicEntry} : cutQ C I Q (.panic c) st = Q (.panic c) st := rfl
theorem CodeJ.cutAt : ∀ (n : Nat) {c : Code} {st : St} (I : St → Prop), vc P C (takeC n c) st (cutQ C I Q) (cutQ C I Q) → (∀ st'', I st'' → CodeJ P C (dropC n c) st'' Q) → CodeJ P C c st Q
  | 0, c, st, I, h1, h2 => fun a w hs => by
    rw [takeC_zero] at h1
    rw [dropC_zero] at h2
    obtain ⟨st'', h3, h4⟩ := h1
    exact h2 st'' h3 a w (Le.syn h4 a w hs)
  | n + 1, .seq x y, st, I, h1, h2 => fun a w hs => by
    have hx := vc_ok x st (R := thn (fun st' => CodeJ P C y st' Q) Q) (fun e st' h' => by
      cases e <;> simp only [thn] at h' ⊢ <;> first | exact h' | exact CodeJ.cutAt n I h' h2) (fun e st' h' => by
      cases e <;> simp only [thn] at h' ⊢ <;> first | exact h' | exact CodeJ.cutAt n I h' h2) h1
    refine wp_seq (wp_mono (hx a w hs) ?_)
    rintro e a' w' ⟨st', h3, h4⟩
    cases e <;> simp only [thn, Exit.then] at h3 ⊢ <;> first | exact h3 a' w' h4 | exact ⟨st', h3, h4⟩
  | _ + 1, .skip, _, _, h1, _ => h1.elim
  | _ + 1, .region .., _, _, h1, _ => h1.elim
  | _ + 1, .cond .., _, _, h1, _ => h1.elim
  | _ + 1, .block .., _, _, h1, _ => h1.elim
  | _ + 1, .loop .., _, _, h1, _ => h1.elim
  | _ + 1, .rangeFunc .., _, _, h1, _ => h1.elim
  | _ + 1, .exit .., _, _, h1, _ => h1.elim
  | _ + 1, .scope .., _, _, h1, _ => h1.elim
  | _ + 1, .label .., _, _, h1, _ => h1.elim
  | _ + 1, .goto .., _, _, h1, _ => h1.elim
  | _ + 1, .ret, _, _, h1, _ => h1.elim
  | _ + 1, .refuse .., _, _, h1, _ => h1.elim
theorem pure_enterJ {f : FuncId} {fn : Func} {c : Code} {args : List SV} {Φ : SV → Prop} (hf : P.funcs[f]? = some fn) (hb : fn.body = some c) (hn : args.length ≤ fn.ntmps)
    (h : ∀ C : Ctx, C.fx = [] → CodeJ P C c ⟨fn.ntmps, argFr 0 args, []⟩ (retQ P fn.results.toList Φ)) : PureC P f args Φ := by
  intro H w vals hi hd
  refine calls_of_wp hf hb ?_
  have hj := h ⟨w, H, [], noB, []⟩ rfl
  refine wp_mono (hj _ w ⟨noB, H, arg_fok hd hn hi.2 rfl (by simp), ?_⟩) ?_
  · exact ⟨rfl, rfl, rfl, Nat.le_refl _, fun _ _ _ => rfl, fun _ _ h => h, fun _ _ h => .inl h, hi.1, fun k e hk => by simp at hk, fun k e d hk => by simp at hk, fun k k' e e' d d' hk => by simp at hk, fun _ _ => rfl, (fun k d hk => by cases hk), hi.2⟩
  · rintro e a w' ⟨st, hq, β, H', hF, hW⟩
    have key : (match retSV P st fn.results.toList with | some (c, x) => c ∧ ∃ y, Sub st.M x y ∧ Φ y | none => False) →
        a.defers = [] ∧ ∃ v, (results fn a.tmps).run P w' = .ok v w' ∧ ∃ H' v' x, Ending.returned v = .returned v' ∧ Den noB H' x v' ∧ Φ x ∧ (∀ b cs, H b = some cs → H' b = some cs) ∧ (∀ b cs, H' b = some cs → H b = some cs ∨ w.heap.size ≤ b) ∧ InvH H' w' ∧ Below w.heap.size w w' := by
      intro hq
      refine ⟨hF.1.1, ?_⟩
      split at hq
      · rename_i c' x hr
        obtain ⟨hc, y, hs, hΦ⟩ := hq
        obtain ⟨v, hv1, hv2⟩ := ret_ok hF hW hr hc
        obtain ⟨H1, h1, h2, h3⟩ := fzL_ok x.ks hW (Sub_pure hs)
        have hd' := Sub_den h2 hs ⟨fun k e he hk => by
          obtain ⟨e', g1, g2, -, g4⟩ := h3 k e he
          exact ⟨e', g1, g2, g4 (.inr hk)⟩⟩ (Den.up hv2 (fun _ _ h => h) h1)
        exact ⟨v, hv1, H1, v, y, rfl, hd', hΦ, h2.ext, fun b cs hb => (h2.new b cs hb).imp id (fun h => h.resolve_right (by simp)), h2.invH, h2.os, h2.tape, h2.output, h2.size, fun k hk => h2.frame k hk (by simp)⟩
      · exact hq.elim
    cases e <;> simp only [retQ] at hq <;> simp only [bodyPost]
    case normal => exact key hq
    case ret => exact key hq
end
end Go.Sv
