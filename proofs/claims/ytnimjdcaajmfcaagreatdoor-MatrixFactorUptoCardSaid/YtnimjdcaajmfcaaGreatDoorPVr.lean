/- Append to a slice that does not begin where its block does: either in place or in a block of its own; code in pieces. A text of the prover's own; it names no program. Plans told operation by operation; a context begun anew; something frozen, cut to its own length, to which is appended: always a block of its own. A text of the prover's own; it names no program. A text of the prover's own. -/
import Derived.Test.YtnimjdcaajmfcaaGreatDoorPVf
import Derived.Test.YtnimjdcaajmfcaaGreatDoorPVe
namespace Go.Sv
open Go Go.RowKit
section
variable {P : Program} {C : Ctx} {β : Bnd} {H : Hp} {M : Tab} {w : World}
end
section
variable {P : Program} {C : Ctx} {all : Array Oper} {rest : List Oper} {st : St} {R : Post}
theorem OpsJ.step {o : Oper} (hg : o.guard = none) (h : vcOp P C none o st (fun st' => OpsJ P C all rest st' R) (fun st' => OpsJ P C all rest st' R)) : OpsJ P C all (o :: rest) st R := fun a w hs => by
  unfold wpList
  rw [if_pos (by simp [Region.wanted, hg])]
  exact .inl (vcOp_ok (fun _ h => h) (fun _ h => h) h hs)
end
/-! code in pieces -/
section
variable {P : Program} {C : Ctx} {st : St} {Q : Post}
/-- a loop whose rounds are told in pieces -/
theorem CodeJ.loopC {c : Code} {ι : Type} (I : ι → St) (Cn : ι → Prop) (μ : ι → Nat) (i0 : ι) (h0 : Cn i0) (hl : leS C st (I i0))
    (hr : ∀ i, Cn i → CodeJ P C c (I i) (thn (fun st' => ∃ j, Cn j ∧ μ j < μ i ∧ Le C st' (I j)) Q)) : CodeJ P C (.loop c) st Q := by
  intro a w hs
  refine wp_loop_ix (fun i a w => Cn i ∧ SIM C (I i) a w) μ i0 ⟨h0, Le.syn hl a w hs⟩ ?_
  rintro i a w ⟨hc, hs⟩
  refine wp_mono (hr i hc a w hs) ?_
  rintro e a' w' ⟨st', h1, h2⟩
  cases e <;> simp only [thn, Exit.then] at h1 ⊢ <;> first | exact ⟨st', h1, h2⟩ | skip
  obtain ⟨j, g1, g2, g3⟩ := h1
  exact ⟨j, ⟨g1, g3 a' w' h2⟩, g2⟩
end
section
variable {P : Program} {C : Ctx} {M : Tab}
end
end Go.Sv
namespace Go.Sv
open Go Go.RowKit
section
variable {P : Program} {C : Ctx} {ops : Array Oper} {R : Post} {st : St}
theorem PlJ.qI {i : Nat} {ks : List Nat} {r : Pl} (np : ∀ c st, ¬ R (.panic c) st) (h : match ops[i]? with
    | none => False
    | some o => gd ops o st (fun st' => okI ks st' o.op ∧ vcOp P C none o st' (fun st'' => PlJ P C ops r st'' R) (fun _ => False)) (fun st' => PlJ P C ops r st' R)) : PlJ P C ops (.q i ks r) st R := fun hns L hL β H a w hF hW => by
  simp only [planOK, Bool.and_eq_true] at hL
  obtain ⟨hq, hL⟩ := hL
  split at h
  · exact h.elim
  · rename_i o ho
    simp only [qOK, ho, Bool.and_eq_true] at hq
    obtain ⟨h1, h2, h3, h4, h5⟩ := hq
    simp only [List.all_eq_true, Bool.and_eq_true, Bool.not_eq_true'] at h4
    let D : Nat → Bool := fun j => (dsc ops i).contains j
    let U : Nat → Prop := fun b => ∃ j, j < ops.size ∧ j ≠ i ∧ D j = false ∧ L.getD j true = false ∧ Wb β w.heap.size (r.Y j) b
    have hUk : (∃ t x, o.op = .load t x) → ∀ b, U b → b < w.heap.size → big ∈ ks ∨ ∃ k ∈ ks, ∃ d, β k = some (some d) ∧ d.b = b := by
      rintro ⟨t', x', hop⟩ b ⟨j, hj1, hj2, hj3, hj4, hw1, hw2⟩ hb
      obtain ⟨dst, op, type, pos, after, guard⟩ := o
      simp only at hop
      subst hop
      simp only [List.all_eq_true, List.mem_range, Bool.or_eq_true, beq_iff_eq] at h5
      have hks : ∀ k ∈ r.Y j, k ∈ ks := fun k hk => by
        rcases h5 j hj1 with h | h | h | h
        · exact absurd h hj2
        · rw [hj4] at h; cases h
        · rw [show (dsc ops i).contains j = false from hj3] at h; cases h
        · have := h k hk; simpa using this
      rcases hw2 with hw2 | hw2 | ⟨k, hk, d, hd, hdb⟩
      · exact .inl (hks _ hw2)
      · omega
      · exact .inr ⟨k, hks k hk, d, hd, hdb⟩
    have core : ∀ v, YieldsIf P ops (fun w' => RS U w w' ∧ InvC H w') o v a → (∃ fr, FOK β H st.n fr (a.put o.dst v) ∧ PlJ P C ops r ⟨st.n, fr, st.M⟩ R) → wpG P ops (QQ C R) (fun j w1 w2 => GG H (Wb β w.heap.size ((Pl.q i ks r).Y j)) w1 w2) (Pl.q i ks r).len L a w := by
      rintro v hy ⟨fr, hF', hv⟩
      refine wpG_first (D := D) (S := fun w' => RS U w w' ∧ InvC H w') ho (Region.noSelect_spec hns) (fun c a' w' ⟨st', hp, _⟩ => absurd hp (np c st')) (fun j oj hj hoj => ?_) (fun w1 hs => ⟨RS.rfl' w1, hs.2⟩) _ L a w ?_ (fun j hj => ?_) (Region.free_spec ho h2) (by simpa using h3) hy ⟨RS.rfl' w, hW.inv⟩ ?_
      · have := h4 j (by simpa [D] using hj)
        rw [hoj] at this
        simp only [Array.any_eq_true', Bool.and_eq_true, Bool.or_eq_true, beq_iff_eq] at this
        exact this.2
      · intro j w1 w2 hj1 hj2 hj3 hj4 hs hg
        exact ⟨hs.1.trans hg.1 fun b _ hb => ⟨j, hj1, hj2, hj3, hj4, hb⟩, hg.2⟩
      · exact (h4 j (by simpa [D] using hj)).1
      · exact hv hns _ hL β H _ w hF' hW
    rcases gd_ok h hF with ⟨hw, fr, hF', hi, hyes⟩ | ⟨hw, fr, hF', hno'⟩
    · obtain ⟨c, x, hx, hc, hd, hnx⟩ := vcOp_quiet h1 hi hyes
      obtain ⟨v, hv1, hv2⟩ := evQ_if (st := ⟨st.n, fr, st.M⟩) hW hF' hx hc hi hUk
      exact core v (.inl ⟨hw, hv1⟩) ⟨_, hF'.putO hd hv2, hnx⟩
    · exact core undef (.inr ⟨hw, rfl⟩) ⟨fr, hF', hno'⟩
/-- an operation that only looks, and of which is known what it yields -/
theorem PlJ.qX {i : Nat} {ks : List Nat} {r : Pl} {o : Oper} (x : SV) (np : ∀ c st, ¬ R (.panic c) st) (ho : ops[i]? = some o) (hg : o.guard = none) (hd : dok o.dst st.n)
    (hr : ∀ β H a w, FOK β H st.n st.fr a → WOK C β H st.M w → ∃ v, (∀ w', (execOp a.eval o).run P w' = .ok (.value v) w') ∧ Den β H x v)
    (hk : PlJ P C ops r ⟨st.n, putO o.dst (some x) st.fr, st.M⟩ R) : PlJ P C ops (.q i ks r) st R := fun hns L hL β H a w hF hW => by
  simp only [planOK, Bool.and_eq_true] at hL
  obtain ⟨hq, hL⟩ := hL
  simp only [qOK, ho, Bool.and_eq_true] at hq
  obtain ⟨h1, h2, h3, h4, h5⟩ := hq
  simp only [List.all_eq_true, Bool.and_eq_true, Bool.not_eq_true'] at h4
  let D : Nat → Bool := fun j => (dsc ops i).contains j
  let U : Nat → Prop := fun b => ∃ j, j < ops.size ∧ j ≠ i ∧ D j = false ∧ L.getD j true = false ∧ Wb β w.heap.size (r.Y j) b
  obtain ⟨v, hv1, hv2⟩ := hr β H a w hF hW
  refine wpG_first (D := D) (S := fun w' => RS U w w' ∧ InvC H w') (v := v) ho (Region.noSelect_spec hns) (fun c a' w' ⟨st', hp, _⟩ => absurd hp (np c st')) (fun j oj hj hoj => ?_) (fun w1 hs => ⟨RS.rfl' w1, hs.2⟩) _ L a w ?_ (fun j hj => ?_) (Region.free_spec ho h2) (by simpa using h3) (.inl ⟨by simp [Region.wanted, hg], fun w' _ => hv1 w'⟩) ⟨RS.rfl' w, hW.inv⟩ ?_
  · have := h4 j (by simpa [D] using hj)
    rw [hoj] at this
    simp only [Array.any_eq_true', Bool.and_eq_true, Bool.or_eq_true, beq_iff_eq] at this
    exact this.2
  · intro j w1 w2 hj1 hj2 hj3 hj4 hs hg
    exact ⟨hs.1.trans hg.1 fun b _ hb => ⟨j, hj1, hj2, hj3, hj4, hb⟩, hg.2⟩
  · exact (h4 j (by simpa [D] using hj)).1
  · exact hk hns _ hL β H _ w (hF.putO hd hv2) hW
theorem PlJ.lI {i : Nat} {ks : List Nat} {r : Pl} (h : match ops[i]? with
    | none => False
    | some o => gd ops o st (fun st' => ((okW ks st' o.op ∧ okA ks r o.op) ∧ r.there st'.M) ∧ vcOp P C (some (nb ks)) o st' (fun st'' => PlJ P C ops r st'' R) (fun st'' => PlJ P C ops r st'' R)) (fun st' => PlJ P C ops r st' R)) : PlJ P C ops (.l i ks r) st R := fun hns L hL β H a w hF hW => by
  simp only [planOK, Bool.and_eq_true, beq_iff_eq] at hL
  split at h
  · exact h.elim
  · rename_i o ho
    exact wpG_one hL.1 (loud_step ho hns hL.2 (fun _ h => h) (fun _ h => h) (fun _ h => h) h hF hW (fun k hk => by simp [Pl.Y, one, hk]) (fun j k hk => by simp [Pl.Y, hk]) (Nat.le_refl _))
/-- an operation that makes a block, told by hand -/
theorem PlJ.lX {i : Nat} {ks : List Nat} {r : Pl} {o : Oper} {st' : St} (ho : ops[i]? = some o) (hg : o.guard = none) (hth : r.there st.M)
    (hr : ∀ β H a w, FOK β H st.n st.fr a → WOK C β H st.M w → ∃ v w' β', (execOp a.eval o).run P w = .ok (.value v) w' ∧ WOK C β' H st'.M w' ∧ FOK β' H st'.n st'.fr (a.put o.dst v) ∧ (∀ k d, β k = some d → β' k = some d) ∧ w.heap.size ≤ w'.heap.size ∧ ∀ b, b < w.heap.size → w'.heap[b]? = w.heap[b]?)
    (hk : PlJ P C ops r st' R) : PlJ P C ops (.l i ks r) st R := fun hns L hL β H a w hF hW => by
  simp only [planOK, Bool.and_eq_true, beq_iff_eq] at hL
  refine wpG_one hL.1 ?_
  unfold wpOp
  simp only [ho]
  rw [if_pos (by simp [Region.wanted, hg])]
  left
  obtain ⟨v, w', β', h1, h2, h3, h4, h5, h6⟩ := hr β H a w hF hW
  simp only [Oper.wp, h1, Oper.upon]
  refine ⟨⟨⟨h5, fun b hb _ => h6 b hb⟩, h2.inv⟩, ?_⟩
  refine wpG_mono _ _ _ _ (fun j w1 w2 _ hr => ⟨hr.1.mono fun b _ hb => ?_, hr.2⟩) (hk hns _ hL.2 β' H _ w' h3 h2)
  exact Wb.back (H' := H) (w' := w') hW (.inl h4) h5 (r.there_Y hth j) (fun k hk => by simp [Pl.Y, hk]) hb
theorem PlJ.ofVc {pl : Pl} (np : ∀ c st, ¬ R (.panic c) st) (h : vcPl P C ops pl st R R) : PlJ P C ops pl st R := vcPl_ok np pl st (fun _ _ h => h) (fun _ _ h => h) h
theorem CodeJ.drawP {id : Nat} (pl : Pl) (hm : P.follows .mixedOrders = true) (hp : (Region.noSelect ops && (planOK ops (Array.replicate ops.size false) pl && decide (pl.len ≤ ops.size))) = true)
    (h : PlJ P C ops pl st R) : CodeJ P C (.region id ops true) st R := by
  simp only [Bool.and_eq_true, decide_eq_true_eq] at hp
  rintro a w ⟨β, H, hF, hW⟩
  exact wp_region_any hm (wpG_any _ _ _ _ (wpG_le hp.2.2 (h hp.1 _ hp.2.1 β H a _ hF hW.drew)))
/-- from here on: what is frozen now was frozen when the call began -/
theorem CodeJ.again {c : Code} (h : ∀ C' : Ctx, C'.fx = C.fx → ∀ β a w, FOK β C'.H0 st.n st.fr a → WOK C' β C'.H0 st.M w → ∃ st1, FOK β C'.H0 st1.n st1.fr a ∧ st1.M = st.M ∧ CodeJ P C' c st1 R) : CodeJ P C c st R := by
  rintro a w ⟨β, H, hF, hW⟩
  let X : List Nat := (List.range st.M.length).filterMap fun i => match tget st.M i, β i with
    | some _, some (some d) => some d.b
    | _, _ => none
  have hX : ∀ b, b ∈ X ↔ ∃ i e d, tget st.M i = some e ∧ β i = some (some d) ∧ d.b = b := fun b => by
    simp only [X, List.mem_filterMap, List.mem_range]
    constructor
    · rintro ⟨i, hi, he⟩
      split at he
      · rename_i e d h1 h2; simp only [Option.some.injEq] at he; exact ⟨i, e, d, h1, h2, he⟩
      · cases he
    · rintro ⟨i, e, d, hi, hd, rfl⟩
      refine ⟨i, ?_, by simp [hi, hd]⟩
      have := tget_some hi
      exact (List.getElem?_eq_some_iff.1 this).1
  have hown : ∀ b, b ∈ X → C.w0.heap.size ≤ b ∨ b ∈ C.X := fun b hb => by
    obtain ⟨i, e, d, h1, h2, rfl⟩ := (hX b).1 hb
    exact (hW.own i e d (tget_some h1) h2).2
  let C' : Ctx := ⟨w, H, X, β, C.fx⟩
  have hW0 : WOK C' β H st.M w := ⟨rfl, rfl, rfl, Nat.le_refl _, fun _ _ _ => rfl, fun _ _ h => h, fun _ _ h => .inl h, hW.inv, hW.ents,
    fun i e d hi hd => ⟨(hW.own i e d hi hd).1, .inr ((hX _).2 ⟨i, e, d, tget_of hi, hd, rfl⟩)⟩, hW.inj, hW.fresh, fun _ _ _ h => h, hW.glob⟩
  obtain ⟨st1, hF1, hM, hc⟩ := h C' rfl β a w hF hW0
  refine wp_mono (hc a w ⟨β, H, hF1, hM ▸ hW0⟩) ?_
  rintro e a' w' ⟨st', hq, β', H', hF', hW'⟩
  refine ⟨st', hq, β', H', hF', ?_⟩
  exact ⟨hW'.os.trans hW.os, hW'.tape.trans hW.tape, hW'.output.trans hW.output, Nat.le_trans hW.size hW'.size,
    fun b hb hx => by
      rw [hW'.frame b (Nat.lt_of_lt_of_le hb hW.size) (fun hbX => by rcases hown b hbX with h' | h'; omega; exact hx h')]; exact hW.frame b hb hx,
    fun b cs hb => hW'.ext b cs (hW.ext b cs hb),
    fun b cs hb => by
      rcases hW'.new b cs hb with h' | h' | h'
      · exact hW.new b cs h'
      · exact .inr (.inl (Nat.le_trans hW.size h'))
      · exact .inr (hown b h'),
    hW'.inv, hW'.ents,
    fun i e d hi hd => ⟨(hW'.own i e d hi hd).1, by
      rcases (hW'.own i e d hi hd).2 with h' | h'
      · exact .inl (Nat.le_trans hW.size h')
      · exact hown _ h'⟩,
    hW'.inj, hW'.fresh, fun i d hi hd => hW'.keep i d hi (hW.keep i d hi hd), hW'.glob⟩
end
/-- a slice of something frozen, of which nothing is left behind its end -/
def Full (H : Hp) (s : Nat) (es : List SV) (base : Option Addr) : Prop :=
  es = [] ∨ ∃ b o cs vs, base = some ⟨b, o, none⟩ ∧ H b = some cs ∧ DenE noB H s es vs ∧ ∀ i, i < vs.length → cs[o + i]? = vs[i]?
section
variable {P : Program} {C : Ctx} {β : Bnd} {H : Hp} {M : Tab} {w : World}
theorem append_full (hW : WOK C β H M w) {es ys : List SV} {ts : Array TypeId} {t0 t1 el el1 ty : TypeId} {te : TI} {s0 b0 s1 b1 : Nat} {z0 z1 : List SV} (h0 : ts[0]? = some t0) (h1 : ts[1]? = some t1)
    (ht0 : tyOf P t0 = some ⟨.sl el, s0, b0, z0⟩) (ht1 : tyOf P t1 = some ⟨.sl el1, s1, b1, z1⟩) (hte : tyOf P el = some te)
    {base : Option Addr} (hu : Full H te.size es base) {v : Value} {vs : List Value} (hv1 : DenE β H te.size ys vs) (hv2 : (Builtin.lenOf v).run P w = .ok ys.length w)
    (hv3 : ∀ w', w'.heap = w.heap → (Builtin.firstCells te.size ys.length v).run P w' = .ok vs.toArray w')
    (hypos : 0 < ys.length) (hb : (es.length + ys.length) * te.bytes ≤ 70368744177664) (hb0 : 0 < te.bytes) :
    ∃ z w' β', (Builtin.append_ ts ty #[.slice base es.length es.length, v]).run P w = .ok z w' ∧ WOK C β' H (M ++ [some ⟨te.size, es ++ ys, false⟩]) w' ∧ Den β' H (.view M.length 0 (es.length + ys.length)) z ∧
      (∀ j d, β j = some d → β' j = some d) ∧ w.heap.size ≤ w'.heap.size ∧ ∀ b, b < w.heap.size → w'.heap[b]? = w.heap[b]? := by
  obtain ⟨i0, d0, zz0, hy0⟩ := tyOf_spec ht0
  obtain ⟨i1, d1, zz1, hy1⟩ := tyOf_spec ht1
  obtain ⟨ie, de, ze, hye⟩ := tyOf_spec hte
  obtain rfl := tk_sl hy0.k
  obtain rfl := tk_sl hy1.k
  obtain ⟨zv, hz1, hz2, hz3⟩ := zsv_den hye β H
  have hbytes : ie.bytes = te.bytes := hye.bytes.symm
  have hneed : es.length + ys.length ≤ 70368744177664 := by
    calc es.length + ys.length = (es.length + ys.length) * 1 := (Nat.mul_one _).symm
      _ ≤ (es.length + ys.length) * te.bytes := Nat.mul_le_mul_left _ hb0
      _ ≤ _ := hb
  have hlv := hv1.length
  have hsl : szP P el = te.size := by simp [szP, hye.info, hye.size]
  have hroom : ¬ (es.length + ys.length ≤ es.length) := by omega
  have hold : ∃ olds : List Value, DenE noB H te.size es olds ∧ (Builtin.firstCells te.size es.length (.slice base es.length es.length)).run P w.drew = .ok olds.toArray w.drew := by
    rcases hu with rfl | ⟨b, o, cs, vs0, rfl, g3, g4, g5⟩
    · refine ⟨[], by simp [DenE], ?_⟩
      cases base <;> simp [Builtin.firstCells, loadCells, loadCellsFrom]
    · obtain ⟨T, z, hbb⟩ := hW.inv b cs g3
      have hl := g4.length
      refine ⟨vs0, g4, ?_⟩
      have hld := run_loadCells (P := P) (w := w.drew) (o := o) hbb vs0 g5
      rw [hl] at hld
      simpa [Builtin.firstCells] using hld
  obtain ⟨olds, ho1, ho2⟩ := hold
  have hlo := ho1.length
  have hf := hv3 w.drew rfl
  have h48 : ¬ (281474976710656 < Builtin.nextslicecap (es.length + ys.length) es.length * ie.bytes) := by
    have := growslice_fits (need := es.length + ys.length) (old := es.length) (bytes := ie.bytes) (by omega) (by rw [hbytes]; omega)
    omega
  have h63 : ¬ (9223372036854775807 < (es.length : Int) + (ys.length : Int)) := by omega
  have ho1' : DenE β H te.size es olds := DenE.mono (fun _ _ h => h) _ _ _ (fun k d _ hd => by simp [noB] at hd) ho1
  have hWr := (hW.drew).alloc (T := el) (cs := olds.toArray ++ vs.toArray ++ Builtin.zeroCells ze.cells (grownCap w (es.length + ys.length) es.length el - (es.length + ys.length))) (ho1'.append hv1) (by simp) (fun q hq => by
    rw [← Array.getElem?_toList]
    simp only [Array.toList_append]
    rw [List.getElem?_append_left hq])
  have hcsz : (olds.toArray ++ vs.toArray ++ Builtin.zeroCells ze.cells (grownCap w (es.length + ys.length) es.length el - (es.length + ys.length))).size =
      (olds ++ vs).length + (grownCap w (es.length + ys.length) es.length el - (es.length + ys.length)) * ze.cells.size := by
    simp [size_zeroCells]
  rw [hcsz] at hWr
  refine ⟨.slice (some ⟨w.heap.size, 0, none⟩) (es.length + ys.length) (grownCap w (es.length + ys.length) es.length el), _, _, ?_, hWr, ?_, fun j d hd => upd_old hW _ j d hd, by simp, fun b hb' => ?_⟩
  · simp [Builtin.append_, h0, h1, hy0.runUnder, hy1.runUnder, hye.runSize, hye.runInfo, hye.runZero, hv2, hroom, hf, ho2, h48, h63, Question.forced, newRow, grownCap]
    congr 2
    apply Array.ext'
    simp [List.append_assoc]
  · simp only [Den]
    right
    refine ⟨_, grownCap w (es.length + ys.length) es.length el, 0, by simp [Bnd.upd]; rfl, grownCap_ge _ _ _ _, ?_, fun _ => by simp, rfl⟩
    have hge := grownCap_ge w (es.length + ys.length) es.length el
    simp only [Nat.zero_add, List.length_append, hlo, hlv, hz3]
    rw [← Nat.add_mul, ← Nat.add_mul]
    exact Nat.mul_le_mul_right _ (by omega)
  · exact heap_alloc_old (by simpa using hb')
end
section
variable {P : Program} {C : Ctx} {st : St}
theorem Full.up {H H' : Hp} {s : Nat} {es : List SV} {base : Option Addr} (h : Full H s es base) (hH : ∀ b cs, H b = some cs → H' b = some cs) : Full H' s es base := by
  rcases h with h | ⟨b, o, cs, vs, h1, h2, h3, h4⟩
  · exact .inl h
  · exact .inr ⟨b, o, cs, vs, h1, hH _ _ h2, DenE.mono hH _ _ _ (fun _ _ _ h => h) h3, h4⟩
/-- how long it is -/
theorem len_lit {d : Option Nat} {x : Operand} {t ty el : TypeId} {p : String} {af : Array Edge} {s0 b0 : Nat} {z0 : List SV} {base : Option Addr} {n c : Nat} (hx : ev st.fr x = some (.val (.slice base n c))) (ht : tyOf P t = some ⟨.sl el, s0, b0, z0⟩) :
    ∀ β H a w, FOK β H st.n st.fr a → WOK C β H st.M w → ∃ v, (∀ w', (execOp a.eval ⟨d, .call ⟨.builtin .len, #[x], #[t]⟩, ty, p, af, none⟩).run P w' = .ok (.value v) w') ∧ Den β H (.val (.int .i64 n)) v := by
  intro β H a w hF hW
  have hden := fOK_den hF x _ hx
  simp only [Den] at hden
  obtain ⟨hv, -⟩ := hden
  obtain ⟨i0, d0, zz0, hy0⟩ := tyOf_spec ht
  obtain rfl := tk_sl hy0.k
  refine ⟨.int .i64 n, fun w' => ?_, den_val rfl⟩
  simp only [execOp, resolve, Sem.run_bind, Sem.run_pure, Result.andThen_ok, invoke, builtin]
  simp [hv, Builtin.len_, Builtin.lenOf, hy0.runUnder, goInt]
/-- nothing behind its end -/
theorem slice3_lit {d : Option Nat} {x hi mx : Operand} {t ty el : TypeId} {p : String} {af : Array Edge} {s0 b0 : Nat} {z0 : List SV} {te : TI} {base : Option Addr} {n c : Nat} (hx : ev st.fr x = some (.val (.slice base n c))) (hhi : ev st.fr hi = some (.val (.int .i64 n))) (hmx : ev st.fr mx = some (.val (.int .i64 n)))
    (ht : tyOf P t = some ⟨.sl el, s0, b0, z0⟩) (hte : tyOf P el = some te) (hc : n ≤ c) (hb : n = 0 ∨ ∃ b o, base = some ⟨b, o, none⟩) :
    ∀ β H a w, FOK β H st.n st.fr a → WOK C β H st.M w → ∃ v, (∀ w', (execOp a.eval ⟨d, .slice t x none (some hi) (some mx), ty, p, af, none⟩).run P w' = .ok (.value v) w') ∧ Den β H (.val (.slice base n n)) v := by
  intro β H a w hF hW
  have hden := fOK_den hF x _ hx
  have h1 := fOK_den hF hi _ hhi
  have h2 := fOK_den hF mx _ hmx
  simp only [Den] at hden h1 h2
  obtain ⟨hv, -⟩ := hden
  obtain ⟨hv1, -⟩ := h1
  obtain ⟨hv2, -⟩ := h2
  obtain ⟨i0, d0, zz0, hy0⟩ := tyOf_spec ht
  obtain rfl := tk_sl hy0.k
  obtain ⟨i2, d2, z2, ht2⟩ := tyOf_spec hte
  refine ⟨.slice base n n, fun w' => ?_, den_val rfl⟩
  have hsb := sliceBounds_ok (P := P) (w := w') (fr := st.fr) (β := β) (H := H) (ρ := a.eval) (fun o => fOK_den hF o) (isSl := true) (lo := none) (hi := some hi) (mx := some mx) (len := n) (cap := c) (l := 0) (h := n) rfl (by simp [intOr, hhi]) (by omega) (by omega) (by omega) hc (fun _ => ⟨by simp [intOr, hmx], rfl⟩)
  simp only [Option.map_none, Option.map_some, hv1, hv2] at hsb
  have hbase : (if n = 0 then base else base.map fun a => a.add (0 * te.size)) = base := by
    rcases hb with rfl | ⟨b, o, rfl⟩
    · simp
    · split <;> simp [Addr.add_eq]
  simp only [execOp]
  simp [hv, hv1, hv2, Instr.sliceAt, Instr.slice, hy0.runUnder, hsb, ht2.runSize]
  simpa using hbase
/-- what is appended to it stands in a block of its own -/
theorem append_lit {d : Nat} {b x : Operand} {t1 t2 ty el el1 : TypeId} {p : String} {af : Array Edge} {te : TI} {s0 b0 s1 b1 : Nat} {z0 z1 : List SV} {es ys : List SV} {c : Prop} {base : Option Addr} {n : Nat} (hn : n = es.length)
    (hb : ev st.fr b = some (.val (.slice base n n))) (ht0 : tyOf P t1 = some ⟨.sl el, s0, b0, z0⟩) (ht1 : tyOf P t2 = some ⟨.sl el1, s1, b1, z1⟩) (hte : tyOf P el = some te)
    (hys : appEs st.M te (ev st.fr x) = some (c, ys)) (hc : c) (hu : Full C.H0 te.size es base) (hp : 0 < ys.length) (hbd : (es.length + ys.length) * te.bytes ≤ 70368744177664) (hb0 : 0 < te.bytes) (hd : d < st.n) :
    ∀ β H a w, FOK β H st.n st.fr a → WOK C β H st.M w → ∃ v w' β', (execOp a.eval ⟨some d, .call ⟨.builtin .append, #[b, x], #[t1, t2]⟩, ty, p, af, none⟩).run P w = .ok (.value v) w' ∧ WOK C β' H (st.M ++ [some ⟨te.size, es ++ ys, false⟩]) w' ∧ FOK β' H st.n ((d, .view st.M.length 0 (es.length + ys.length)) :: st.fr) (a.put (some d) v) ∧
      (∀ k d, β k = some d → β' k = some d) ∧ w.heap.size ≤ w'.heap.size ∧ ∀ b, b < w.heap.size → w'.heap[b]? = w.heap[b]? := by
  subst hn
  intro β H a w hF hW
  have hρ := fun o => fOK_den hF o
  have hden := hρ b _ hb
  simp only [Den] at hden
  obtain ⟨hv, -⟩ := hden
  obtain ⟨vs, e1, e2, e3⟩ := appEs_ok (P := P) hW hys hc (hρ x)
  obtain ⟨z, w', β', g1, g2, g3, g4, g5, g6⟩ := append_full (P := P) (ty := ty) (ts := #[t1, t2]) hW rfl rfl ht0 ht1 hte (hu.up hW.ext) e1 e2 e3 hp hbd hb0
  refine ⟨z, w', β', ?_, g2, ?_, g4, g5, g6⟩
  · simp only [execOp, resolve, Sem.run_bind, Sem.run_pure, Result.andThen_ok, invoke, builtin]
    simp [hv, g1]
  · exact (hF.mono g4 (fun _ _ h => h)).put hd g3
end
end Go.Sv

