/- Append to a slice that does not begin where its block does: either in place or in a block of its own; code in pieces. A text of the prover's own; it names no program. Plans told operation by operation; a context begun anew; something frozen, cut to its own length, to which is appended: always a block of its own. A text of the prover's own; it names no program. A text of the prover's own. -/
import Derived.Test.YtadkomdooleipaaGreatDoorKVf
import Derived.Test.YtadkomdooleipaaGreatDoorKVe
namespace Go.Sv
open Go Go.RowKit
section
variable {P : Program} {C : Ctx} {β : Bnd} {H : Hp} {M : Tab} {w : World}
end
section
variable {P : Program} {C : Ctx} {all : Array Oper} {rest : List Oper} {st : St} {R : Post}
theorem OpsJ.step {o : Oper} (hg : o.guard = none) (h : vcOp P C none o st (fun st' => OpsJ P C all rest st' R) (fun st' => OpsJ P C all rest st' R)) : OpsJ P C all (o :: rest) st R := fun a w hs => by
  unfold wpList
  rw [if_pos (by simp [Region.wanted, hg])]
  exact .inl (vcOp_ok (fun _ h => h) (fun _ h => h) h hs)
end
/-! code in pieces -/
section
variable {P : Program} {C : Ctx} {st : St} {Q : Post}
theorem CodeJ.seqI {x y : Code} (h : CodeJ P C x st (thn (fun st' => CodeJ P C y st' Q) Q)) : CodeJ P C (.seq x y) st Q := by
  intro a w hs
  refine wp_seq (wp_mono (h a w hs) ?_)
  rintro e a' w' ⟨st', h2, h3⟩
  cases e <;> simp only [thn, Exit.then] at h2 ⊢ <;> first | exact h2 a' w' h3 | exact ⟨st', h2, h3⟩
theorem CodeJ.blockI {id : Nat} {c : Code} (h : CodeJ P C c st (blk id Q)) : CodeJ P C (.block id c) st Q := by
  intro a w hs
  refine wp_block (wp_mono (h a w hs) ?_)
  rintro e a' w' ⟨st', h2, h3⟩
  cases e <;> simp only [blk, Exit.inBlock] at h2 ⊢ <;> first | exact ⟨st', h2, h3⟩ | (split at h2 <;> rename_i e <;> first | (rw [if_pos e]; exact ⟨st', h2, h3⟩) | (rw [if_neg e]; exact ⟨st', h2, h3⟩))
theorem CodeJ.condI {c : Operand} {x y : Code} (b : Bool) (hb : ev st.fr c = some (.val (.bool b))) (h1 : b = true → CodeJ P C x st Q) (h2 : b = false → CodeJ P C y st Q) : CodeJ P C (.cond c x y) st Q := by
  rintro a w ⟨β, H, hF, hW⟩
  have hden := ev_den hF hb
  simp only [Den] at hden
  exact wp_cond_split hden.1 (fun ht => h1 ht a w ⟨β, H, hF, hW⟩) (fun hf => h2 hf a w ⟨β, H, hF, hW⟩)
theorem CodeJ.regionI {id : Nat} {ops : Array Oper} (h : OpsJ P C ops ops.toList st Q) : CodeJ P C (.region id ops false) st Q := fun a w hs => wp_region_list (h a w hs)
/-- a loop whose rounds are told in pieces -/
theorem CodeJ.loopC {c : Code} {ι : Type} (I : ι → St) (Cn : ι → Prop) (μ : ι → Nat) (i0 : ι) (h0 : Cn i0) (hl : leS C st (I i0))
    (hr : ∀ i, Cn i → CodeJ P C c (I i) (thn (fun st' => ∃ j, Cn j ∧ μ j < μ i ∧ Le C st' (I j)) Q)) : CodeJ P C (.loop c) st Q := by
  intro a w hs
  refine wp_loop_ix (fun i a w => Cn i ∧ SIM C (I i) a w) μ i0 ⟨h0, Le.syn hl a w hs⟩ ?_
  rintro i a w ⟨hc, hs⟩
  refine wp_mono (hr i hc a w hs) ?_
  rintro e a' w' ⟨st', h1, h2⟩
  cases e <;> simp only [thn, Exit.then] at h1 ⊢ <;> first | exact ⟨st', h1, h2⟩ | skip
  obtain ⟨j, g1, g2, g3⟩ := h1
  exact ⟨j, ⟨g1, g3 a' w' h2⟩, g2⟩
end
section
variable {P : Program} {C : Ctx} {M : Tab}
/-- a call, walked in place, its code in pieces -/
theorem call_hereC {f : FuncId} {fn : Func} {c : Code} {args : List SV} {W : Option (List Nat)} {k : Tab → List Nat → SV → Prop} (hf : P.funcs[f]? = some fn) (hb : fn.body = some c) (hn : args.length ≤ fn.ntmps) (pk : List Nat)
    (hpk : ∀ i ∈ pk, i ∉ C.fx) (hWk : ∀ ks, W = some ks → pk = [] ∧ ∀ i e, tget M i = some e → i ∈ ks)
    (h : ∀ C' : Ctx, C'.fx = (List.range M.length).filter (fun i => !pk.contains i) → CodeJ P C' c ⟨fn.ntmps, argFr 0 args, M⟩ (retH P fn.results.toList pk k)) : CallJ P C f args M W k := by
  intro β H w vals hd hW
  refine calls_of_wp hf hb ?_
  let X : List Nat := (List.range M.length).filterMap fun i => match tget M i, β i with
    | some _, some (some d) => some d.b
    | _, _ => none
  have hX : ∀ b, b ∈ X ↔ ∃ i e d, tget M i = some e ∧ β i = some (some d) ∧ d.b = b := fun b => by
    simp only [X, List.mem_filterMap, List.mem_range]
    constructor
    · rintro ⟨i, hi, he⟩
      split at he
      · rename_i e d h1 h2; simp only [Option.some.injEq] at he; exact ⟨i, e, d, h1, h2, he⟩
      · cases he
    · rintro ⟨i, e, d, hi, hd, rfl⟩
      refine ⟨i, ?_, by simp [hi, hd]⟩
      have := tget_some hi
      exact (List.getElem?_eq_some_iff.1 this).1
  have hown : ∀ b, b ∈ X → C.w0.heap.size ≤ b ∨ b ∈ C.X := fun b hb => by
    obtain ⟨i, e, d, h1, h2, rfl⟩ := (hX b).1 hb
    exact (hW.own i e d (tget_some h1) h2).2
  let C' : Ctx := ⟨w, H, X, β, (List.range M.length).filter (fun i => !pk.contains i)⟩
  have hfx : ∀ i d, i ∉ pk → β i = some d → i ∈ C'.fx := fun i d hi hd => by
    have : i < M.length := by
      rcases Nat.lt_or_ge i M.length with h' | h'
      · exact h'
      · rw [hW.fresh i h'] at hd; cases hd
    simp [C', this, hi]
  have hW0 : WOK C' β H M w := ⟨rfl, rfl, rfl, Nat.le_refl _, fun _ _ _ => rfl, fun _ _ h => h, fun _ _ h => .inl h, hW.inv, hW.ents,
    fun i e d hi hd => ⟨(hW.own i e d hi hd).1, .inr ((hX _).2 ⟨i, e, d, tget_of hi, hd, rfl⟩)⟩, hW.inj, hW.fresh, fun _ _ _ h => h, hW.glob⟩
  refine wp_mono (h C' rfl _ w ⟨β, H, arg_fok hd hn hW.glob rfl (by simp), hW0⟩) ?_
  rintro e a w' ⟨st, hq, β', H', hF, hW'⟩
  have hkeep : ∀ i d, i ∉ pk → β i = some d → β' i = some d := fun i d hi hd => hW'.keep i d (hfx i d hi hd) hd
  have hWC : WOK C β' H' st.M w' := ⟨hW'.os.trans hW.os, hW'.tape.trans hW.tape, hW'.output.trans hW.output, Nat.le_trans hW.size hW'.size,
    fun b hb hx => by
      rw [hW'.frame b (Nat.lt_of_lt_of_le hb hW.size) (fun hbX => by rcases hown b hbX with h' | h'; omega; exact hx h')]; exact hW.frame b hb hx,
    fun b cs hb => hW'.ext b cs (hW.ext b cs hb),
    fun b cs hb => by
      rcases hW'.new b cs hb with h' | h' | h'
      · exact hW.new b cs h'
      · exact .inr (.inl (Nat.le_trans hW.size h'))
      · exact .inr (hown b h'),
    hW'.inv, hW'.ents,
    fun i e d hi hd => ⟨(hW'.own i e d hi hd).1, by
      rcases (hW'.own i e d hi hd).2 with h' | h'
      · exact .inl (Nat.le_trans hW.size h')
      · exact hown _ h'⟩,
    hW'.inj, hW'.fresh, fun i d hi hd => hkeep i d (fun hp => hpk i hp hi) (hW.keep i d hi hd), hW'.glob⟩
  have key : (match retSV P st fn.results.toList with | some (c, x) => c ∧ k st.M pk x | none => False) →
      a.defers = [] ∧ ∃ v, (results fn a.tmps).run P w' = .ok v w' ∧ ∃ β' H' M' v' x pk, Ending.returned v = .returned v' ∧ Den β' H' x v' ∧ WOK C β' H' M' w' ∧ (∀ k d, k ∉ pk → β k = some d → β' k = some d) ∧ (∀ b cs, H b = some cs → H' b = some cs) ∧ k M' pk x ∧
        w.heap.size ≤ w'.heap.size ∧ ∀ ks, W = some ks → pk = [] ∧ ∀ b, b < w.heap.size → (∀ k ∈ ks, ∀ d, β k = some (some d) → b ≠ d.b) → w'.heap[b]? = w.heap[b]? := by
    intro hq
    refine ⟨hF.1.1, ?_⟩
    split at hq
    · rename_i c' x hr
      obtain ⟨v, hv1, hv2⟩ := ret_ok hF hW' hr hq.1
      refine ⟨v, hv1, β', H', st.M, v, x, pk, rfl, hv2, hWC, hkeep, hW'.ext, hq.2, hW'.size, fun ks hks => ?_⟩
      obtain ⟨g1, g2⟩ := hWk ks hks
      refine ⟨g1, fun b hb hn => hW'.frame b hb fun hbX => ?_⟩
      obtain ⟨i, e, d, h1, h2, rfl⟩ := (hX b).1 hbX
      exact hn i (g2 i e h1) d h2 rfl
    · exact hq.elim
  cases e <;> simp only [retH] at hq <;> simp only [bodyPost]
  case normal => exact key hq
  case ret => exact key hq
theorem eff_enterC {f : FuncId} {fn : Func} {c : Code} {args : List SV} {T : Tab} {pk : List Nat} {Φ : Tab → SV → Prop} (hf : P.funcs[f]? = some fn) (hb : fn.body = some c) (hn : args.length ≤ fn.ntmps)
    (h : ∀ C' : Ctx, C'.fx = (List.range T.length).filter (fun i => !pk.contains i) → CodeJ P C' c ⟨fn.ntmps, argFr 0 args, T⟩ (retH P fn.results.toList pk (effK T pk Φ))) : EffC P f args T pk Φ := by
  intro C hC
  exact call_hereC hf hb hn pk (fun i _ hi => by rw [hC] at hi; cases hi) (fun ks h => by cases h) h
end
end Go.Sv
namespace Go.Sv
open Go Go.RowKit
section
variable {P : Program} {C : Ctx} {ops : Array Oper} {R : Post} {st : St}
/-- from here on: what is frozen now was frozen when the call began -/
theorem CodeJ.again {c : Code} (h : ∀ C' : Ctx, C'.fx = C.fx → ∀ β a w, FOK β C'.H0 st.n st.fr a → WOK C' β C'.H0 st.M w → ∃ st1, FOK β C'.H0 st1.n st1.fr a ∧ st1.M = st.M ∧ CodeJ P C' c st1 R) : CodeJ P C c st R := by
  rintro a w ⟨β, H, hF, hW⟩
  let X : List Nat := (List.range st.M.length).filterMap fun i => match tget st.M i, β i with
    | some _, some (some d) => some d.b
    | _, _ => none
  have hX : ∀ b, b ∈ X ↔ ∃ i e d, tget st.M i = some e ∧ β i = some (some d) ∧ d.b = b := fun b => by
    simp only [X, List.mem_filterMap, List.mem_range]
    constructor
    · rintro ⟨i, hi, he⟩
      split at he
      · rename_i e d h1 h2; simp only [Option.some.injEq] at he; exact ⟨i, e, d, h1, h2, he⟩
      · cases he
    · rintro ⟨i, e, d, hi, hd, rfl⟩
      refine ⟨i, ?_, by simp [hi, hd]⟩
      have := tget_some hi
      exact (List.getElem?_eq_some_iff.1 this).1
  have hown : ∀ b, b ∈ X → C.w0.heap.size ≤ b ∨ b ∈ C.X := fun b hb => by
    obtain ⟨i, e, d, h1, h2, rfl⟩ := (hX b).1 hb
    exact (hW.own i e d (tget_some h1) h2).2
  let C' : Ctx := ⟨w, H, X, β, C.fx⟩
  have hW0 : WOK C' β H st.M w := ⟨rfl, rfl, rfl, Nat.le_refl _, fun _ _ _ => rfl, fun _ _ h => h, fun _ _ h => .inl h, hW.inv, hW.ents,
    fun i e d hi hd => ⟨(hW.own i e d hi hd).1, .inr ((hX _).2 ⟨i, e, d, tget_of hi, hd, rfl⟩)⟩, hW.inj, hW.fresh, fun _ _ _ h => h, hW.glob⟩
  obtain ⟨st1, hF1, hM, hc⟩ := h C' rfl β a w hF hW0
  refine wp_mono (hc a w ⟨β, H, hF1, hM ▸ hW0⟩) ?_
  rintro e a' w' ⟨st', hq, β', H', hF', hW'⟩
  refine ⟨st', hq, β', H', hF', ?_⟩
  exact ⟨hW'.os.trans hW.os, hW'.tape.trans hW.tape, hW'.output.trans hW.output, Nat.le_trans hW.size hW'.size,
    fun b hb hx => by
      rw [hW'.frame b (Nat.lt_of_lt_of_le hb hW.size) (fun hbX => by rcases hown b hbX with h' | h'; omega; exact hx h')]; exact hW.frame b hb hx,
    fun b cs hb => hW'.ext b cs (hW.ext b cs hb),
    fun b cs hb => by
      rcases hW'.new b cs hb with h' | h' | h'
      · exact hW.new b cs h'
      · exact .inr (.inl (Nat.le_trans hW.size h'))
      · exact .inr (hown b h'),
    hW'.inv, hW'.ents,
    fun i e d hi hd => ⟨(hW'.own i e d hi hd).1, by
      rcases (hW'.own i e d hi hd).2 with h' | h'
      · exact .inl (Nat.le_trans hW.size h')
      · exact hown _ h'⟩,
    hW'.inj, hW'.fresh, fun i d hi hd => hW'.keep i d hi (hW.keep i d hi hd), hW'.glob⟩
end
/-- a slice of something frozen, of which nothing is left behind its end -/
def Full (H : Hp) (s : Nat) (es : List SV) (base : Option Addr) : Prop :=
  es = [] ∨ ∃ b o cs vs, base = some ⟨b, o, none⟩ ∧ H b = some cs ∧ DenE noB H s es vs ∧ ∀ i, i < vs.length → cs[o + i]? = vs[i]?
section
variable {P : Program} {C : Ctx} {β : Bnd} {H : Hp} {M : Tab} {w : World}
end
section
variable {P : Program} {C : Ctx} {st : St}
theorem Full.up {H H' : Hp} {s : Nat} {es : List SV} {base : Option Addr} (h : Full H s es base) (hH : ∀ b cs, H b = some cs → H' b = some cs) : Full H' s es base := by
  rcases h with h | ⟨b, o, cs, vs, h1, h2, h3, h4⟩
  · exact .inl h
  · exact .inr ⟨b, o, cs, vs, h1, hH _ _ h2, DenE.mono hH _ _ _ (fun _ _ _ h => h) h3, h4⟩
end
end Go.Sv

