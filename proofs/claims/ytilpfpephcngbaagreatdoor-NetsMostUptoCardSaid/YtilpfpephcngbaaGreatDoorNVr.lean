/- Append to a slice that does not begin where its block does: either in place or in a block of its own; code in pieces. A text of the prover's own; it names no program. -/
import Derived.Test.YtilpfpephcngbaaGreatDoorNVf
import Derived.Test.YtilpfpephcngbaaGreatDoorNVe
namespace Go.Sv
open Go Go.RowKit
section
variable {P : Program} {C : Ctx} {β : Bnd} {H : Hp} {M : Tab} {w : World}
theorem append_off (hW : WOK C β H M w) {k i n : Nat} (hfx : ∀ d, k ∈ C.fx → C.b0 k ≠ some d) {sz : Nat} {es ys : List SV} (hk : M[k]? = some (some ⟨sz, es, false⟩)) (hin : i + n = es.length) (hn : nouse k M = true) (huy : SV.usesL k ys = false) (hty : ∀ y ∈ ys, y.isTup = false)
    {ts : Array TypeId} {t0 t1 el el1 ty : TypeId} {te : TI} {s0 b0 s1 b1 : Nat} {z0 z1 : List SV} (h0 : ts[0]? = some t0) (h1 : ts[1]? = some t1)
    (ht0 : tyOf P t0 = some ⟨.sl el, s0, b0, z0⟩) (ht1 : tyOf P t1 = some ⟨.sl el1, s1, b1, z1⟩) (hte : tyOf P el = some te) (hsz : sz = te.size)
    {u v : Value} (hu : Den β H (.view k i n) u) {vs : List Value} (hv1 : DenE β H te.size ys vs) (hv2 : (Builtin.lenOf v).run P w = .ok ys.length w)
    (hv3 : ∀ w', w'.heap = w.heap → (Builtin.firstCells te.size ys.length v).run P w' = .ok vs.toArray w')
    (hypos : 0 < ys.length) (hb : (n + ys.length) * te.bytes ≤ 70368744177664) (hb0 : 0 < te.bytes) :
    ∃ z w' β', (Builtin.append_ ts ty #[u, v]).run P w = .ok z w' ∧ ((WOK C β' H (M.set k (some ⟨sz, es ++ ys, false⟩)) w' ∧ Den β' H (.view k i (n + ys.length)) z) ∨ (WOK C β' H (M.set k (some ⟨sz, es.drop i ++ ys, false⟩)) w' ∧ Den β' H (.view k 0 (n + ys.length)) z)) ∧
      (∀ j d, j ≠ k → β j = some d → β' j = some d) := by
  subst hsz
  obtain ⟨i0, d0, zz0, hy0⟩ := tyOf_spec ht0
  obtain ⟨i1, d1, zz1, hy1⟩ := tyOf_spec ht1
  obtain ⟨ie, de, ze, hye⟩ := tyOf_spec hte
  obtain rfl := tk_sl hy0.k
  obtain rfl := tk_sl hy1.k
  obtain ⟨zv, hz1, hz2, hz3⟩ := zsv_den hye β H
  have hbytes : ie.bytes = te.bytes := hye.bytes.symm
  have hneed : n + ys.length ≤ 70368744177664 := by
    calc n + ys.length = (n + ys.length) * 1 := (Nat.mul_one _).symm
      _ ≤ (n + ys.length) * te.bytes := Nat.mul_le_mul_left _ hb0
      _ ≤ _ := hb
  have hlv := hv1.length
  have hsl : szP P el = te.size := by simp [szP, hye.info, hye.size]
  have hdl : (es.drop i).length = n := by simp; omega
  have hex : ∃ base cap, u = .slice base n cap ∧ n ≤ cap := by
    simp only [Den] at hu
    rcases hu with ⟨_, _, hl, hu⟩ | ⟨d, c', o, _, hc', _, _, hu⟩
    · exact ⟨none, 0, by rw [hl]; exact hu, by omega⟩
    · exact ⟨_, c', hu, hc'⟩
  obtain ⟨base, cap, rfl, hcap⟩ := hex
  by_cases hroom : n + ys.length ≤ cap
  · -- in place
    simp only [Den] at hu
    rcases hu with ⟨_, _, _, hu⟩ | ⟨d, c', o, g1, g2, g3, g4, hu⟩
    · simp only [Value.slice.injEq] at hu; omega
    · simp only [Value.slice.injEq] at hu
      obtain ⟨rfl, -, rfl⟩ := hu
      have ho := g4 (by omega)
      subst ho
      rcases hW.ents k _ hk with ⟨h4, _⟩ | ⟨d', cs, T, vs0, h4, h5, h6, h7, h8, h9, h10, -⟩ | ⟨d', ms, h4, h5, h6, h7⟩
      rotate_left 2
      · rw [g1] at h4; simp only [Option.some.injEq] at h4; subst h4
        rw [h5.2.1, h5.2.2] at g3
        omega
      · rw [g1] at h4; simp at h4
      · rw [g1] at h4; simp only [Option.some.injEq] at h4; subst h4
        simp only at h5 h8
        have hl0 := h8.length
        have hcapm : (es.length + ys.length) * te.size ≤ cs.size := by
          rw [h7]
          calc (es.length + ys.length) * te.size ≤ (i + cap) * te.size := Nat.mul_le_mul_right _ (by omega)
            _ = (i + cap) * d.sz := by rw [h5]
            _ ≤ d.tot := g3
        rw [Nat.add_mul] at hcapm
        have hoff : i * d.sz + n * te.size = es.length * te.size := by rw [h5, ← Nat.add_mul, hin]
        have hones : ∀ x ∈ vs, x.oneCell' = true := hv1.ones hty
        obtain ⟨w', cs', r1, r2, r3, r4⟩ := run_storeCells (P := P) vs w (es.length * te.size) 0 cs h6 (by rw [hlv]; omega) hones
        have hf := hv3 w rfl
        refine ⟨.slice (some ⟨d.b, i * d.sz, none⟩) (n + ys.length) cap, w', β, ?_, .inl ⟨?_, ?_⟩, fun _ _ _ h => h⟩
        · simp [Builtin.append_, h0, h1, hy0.runUnder, hy1.runUnder, hye.runSize, hv2, hroom, hf, Addr.add_eq, hoff, r1]
        · refine hW.write hk rfl g1 h5 r2 (by rw [r3, h7]) (h8.append hv1) (by rw [List.length_append, hl0, hlv, r3]; omega) (fun q hq => ?_)
          rw [List.length_append, hl0, hlv] at hq
          rw [r4]
          simp only [Nat.add_zero]
          by_cases hq' : q < es.length * te.size
          · rw [if_neg (by omega), List.getElem?_append_left (by omega)]
            exact h10 q (by omega)
          · rw [if_pos (by rw [hlv]; omega), List.getElem?_append_right (by omega), hl0]
        · simp only [Den]
          right
          exact ⟨d, cap, i * d.sz, g1, hroom, g3, fun _ => rfl, rfl⟩
  · -- a new block
    have hold : ∃ olds : List Value, DenE β H te.size (es.drop i) olds ∧ (Builtin.firstCells te.size n (.slice base n cap)).run P w.drew = .ok olds.toArray w.drew := by
      simp only [Den] at hu
      rcases hu with ⟨_, rfl, rfl, hu⟩ | ⟨d, c', o, g1, g2, g3, g4, hu⟩
      · simp only [Value.slice.injEq] at hu
        obtain ⟨rfl, -, rfl⟩ := hu
        have : es = [] := List.length_eq_zero_iff.1 (by omega)
        subst this
        exact ⟨[], by simp [DenE], by simp [Builtin.firstCells]⟩
      · simp only [Value.slice.injEq] at hu
        obtain ⟨rfl, -, rfl⟩ := hu
        rcases hW.ents k _ hk with ⟨h4, _⟩ | ⟨d', cs, T, vs0, h4, h5, h6, h7, h8, h9, h10, -⟩ | ⟨d', ms, h4, h5, h6, h7⟩
        rotate_left 2
        · rw [g1] at h4; simp only [Option.some.injEq] at h4; subst h4
          rw [h5.2.1, h5.2.2] at g3
          have hz : n = 0 := by omega
          subst hz
          have : es.drop i = [] := List.length_eq_zero_iff.1 hdl
          rw [this]
          exact ⟨[], by simp [DenE], by simp [Builtin.firstCells, loadCells, loadCellsFrom]⟩
        · rw [g1] at h4; simp at h4
        · rw [g1] at h4; simp only [Option.some.injEq] at h4; subst h4
          simp only at h5 h8
          have hl0 := h8.length
          have h8' := h8.drop i
          have hl1 := h8'.length
          rw [hdl] at hl1
          refine ⟨vs0.drop (i * te.size), h8', ?_⟩
          rcases Nat.eq_zero_or_pos n with he | he
          · have : vs0.drop (i * te.size) = [] := List.length_eq_zero_iff.1 (by rw [hl1, he]; simp)
            rw [this, he]
            simp [Builtin.firstCells, loadCells, loadCellsFrom]
          · have ho := g4 (by omega)
            subst ho
            have hld := run_loadCells (P := P) (w := w.drew) (o := i * d.sz) (T := T) (z := (0, 0)) (b := d.b) h6 (vs0.drop (i * te.size)) (fun q hq => by
              rw [List.getElem?_drop, h5]
              refine h10 _ ?_
              rw [hl1] at hq
              rw [hl0, ← hin, Nat.add_mul]; omega)
            rw [hl1] at hld
            simpa [Builtin.firstCells] using hld
    obtain ⟨olds, ho1, ho2⟩ := hold
    have hlo := ho1.length
    rw [hdl] at hlo
    have hf := hv3 w.drew rfl
    have h48 : ¬ (281474976710656 < Builtin.nextslicecap (n + ys.length) cap * ie.bytes) := by
      have := growslice_fits (need := n + ys.length) (old := cap) (bytes := ie.bytes) (by omega) (by rw [hbytes]; omega)
      omega
    have h63 : ¬ (9223372036854775807 < (n : Int) + (ys.length : Int)) := by omega
    have hnd : Den (β.upd k (some ⟨w.heap.size, (olds ++ vs).length + (grownCap w (n + ys.length) cap el - (n + ys.length)) * ze.cells.size, te.size⟩)) H (.view k 0 (n + ys.length))
        (.slice (some ⟨w.heap.size, 0, none⟩) (n + ys.length) (grownCap w (n + ys.length) cap el)) := by
      simp only [Den]
      right
      refine ⟨_, grownCap w (n + ys.length) cap el, 0, by simp [Bnd.upd]; rfl, grownCap_ge _ _ _ _, ?_, fun _ => by simp, rfl⟩
      have hge := grownCap_ge w (n + ys.length) cap el
      simp only [Nat.zero_add, List.length_append, hlo, hlv, hz3]
      rw [← Nat.add_mul, ← Nat.add_mul]
      exact Nat.mul_le_mul_right _ (by omega)
    have hues : SV.usesL k es = false := nouse_of hn hk
    have hued : SV.usesL k (es.drop i) = false := by
      have key : ∀ (l : List SV) (j : Nat), SV.usesL k l = false → SV.usesL k (l.drop j) = false := fun l => by
        induction l with
        | nil => intro j _; simp
        | cons x l ih => intro j h; cases j with
          | zero => exact h
          | succ j =>
            simp only [SV.usesL, Bool.or_eq_false_iff] at h
            exact ih j h.2
      exact key _ _ hues
    have hWr := (hW.drew).rebind (T := el) hfx hk hn (cs := olds.toArray ++ vs.toArray ++ Builtin.zeroCells ze.cells (grownCap w (n + ys.length) cap el - (n + ys.length)))
      (ho1.append hv1) (by
        have : ∀ a b : List SV, SV.usesL k (a ++ b) = (SV.usesL k a || SV.usesL k b) := fun a b => by
          induction a with
          | nil => simp [SV.usesL]
          | cons x a ih => simp [SV.usesL, ih, Bool.or_assoc]
        rw [this, hued, huy]; rfl) (by simp) (fun q hq => by
        rw [← Array.getElem?_toList]
        simp only [Array.toList_append]
        rw [List.getElem?_append_left hq])
    have hcsz : (olds.toArray ++ vs.toArray ++ Builtin.zeroCells ze.cells (grownCap w (n + ys.length) cap el - (n + ys.length))).size =
        (olds ++ vs).length + (grownCap w (n + ys.length) cap el - (n + ys.length)) * ze.cells.size := by
      simp [size_zeroCells]
    rw [hcsz] at hWr
    refine ⟨.slice (some ⟨w.heap.size, 0, none⟩) (n + ys.length) (grownCap w (n + ys.length) cap el), _, _, ?_, .inr ⟨hWr, hnd⟩, fun j d hj hd => by simp only [Bnd.upd]; rw [if_neg hj]; exact hd⟩
    simp [Builtin.append_, h0, h1, hy0.runUnder, hy1.runUnder, hye.runSize, hye.runInfo, hye.runZero, hv2, hroom, hf, ho2, h48, h63, Question.forced, newRow, grownCap]
    congr 2
    apply Array.ext'
    simp [List.append_assoc]
end
section
variable {P : Program} {C : Ctx} {all : Array Oper} {rest : List Oper} {st : St} {R : Post}
theorem OpsJ.step {o : Oper} (hg : o.guard = none) (h : vcOp P C none o st (fun st' => OpsJ P C all rest st' R) (fun st' => OpsJ P C all rest st' R)) : OpsJ P C all (o :: rest) st R := fun a w hs => by
  unfold wpList
  rw [if_pos (by simp [Region.wanted, hg])]
  exact .inl (vcOp_ok (fun _ h => h) (fun _ h => h) h hs)
/-- such an append: its result stands in place, or in a block of its own -/
theorem OpsJ.appOff {d : Option Nat} {b x : Operand} {t1 t2 ty : TypeId} {p : String} {af : Array Edge} (k i n : Nat) {sz : Nat} {el el1 : TypeId} {te : TI} {s0 b0 s1 b1 : Nat} {z0 z1 : List SV} {es ys : List SV} {c : Prop}
    (hb : ev st.fr b = some (.view k i n)) (ht0 : tyOf P t1 = some ⟨.sl el, s0, b0, z0⟩) (ht1 : tyOf P t2 = some ⟨.sl el1, s1, b1, z1⟩) (hte : tyOf P el = some te)
    (hk : tget st.M k = some ⟨sz, es, false⟩) (hsz : sz = te.size) (hys : appEs st.M te (ev st.fr x) = some (c, ys)) (hc : c)
    (hin : i + n = es.length) (hfx : k ∉ C.fx) (hn : nouse k st.M = true) (huy : SV.usesL k ys = false) (hty : ∀ y ∈ ys, y.isTup = false) (hp : 0 < ys.length) (hbd : (n + ys.length) * te.bytes ≤ 70368744177664) (hb0 : 0 < te.bytes) (hd : dok d st.n)
    (h1 : OpsJ P C all rest ⟨st.n, putO d (some (.view k i (n + ys.length))) (forget [k] st.fr), tset st.M k (some ⟨sz, es ++ ys, false⟩)⟩ R)
    (h2 : OpsJ P C all rest ⟨st.n, putO d (some (.view k 0 (n + ys.length))) (forget [k] st.fr), tset st.M k (some ⟨sz, es.drop i ++ ys, false⟩)⟩ R) :
    OpsJ P C all (⟨d, .call ⟨.builtin .append, #[b, x], #[t1, t2]⟩, ty, p, af, none⟩ :: rest) st R := by
  rintro a w ⟨β, H, hF, hW⟩
  have hρ := fun o => fOK_den hF o
  obtain ⟨vs, e1, e2, e3⟩ := appEs_ok (P := P) hW hys hc (hρ x)
  obtain ⟨z, w', β', g1, g2, g3⟩ := append_off (P := P) (ty := ty) (ts := #[t1, t2]) hW (fun d hi => absurd hi hfx) (tget_some hk) hin hn huy hty rfl rfl ht0 ht1 hte hsz (hρ b _ hb) e1 e2 e3 hp hbd hb0
  have hrun : (execOp a.eval ⟨d, .call ⟨.builtin .append, #[b, x], #[t1, t2]⟩, ty, p, af, none⟩).run P w = .ok (.value z) w' := by
    simp only [execOp, resolve, Sem.run_bind, Sem.run_pure, Result.andThen_ok, invoke, builtin]
    simp [g1]
  have hfo : FOK β' H st.n (forget [k] st.fr) a := by
    refine ⟨hF.1, hF.2.1, fun t x hg => ?_⟩
    obtain ⟨q1, q2⟩ := get_forget hg
    obtain ⟨v, hv, hden⟩ := hF.2.2 t x q1
    exact ⟨v, hv, Den.mono (fun _ _ h => h) x v (fun j d hj hjd => g3 j d (fun e => by subst e; rw [q2 j (by simp)] at hj; cases hj) hjd) hden⟩
  unfold wpList
  rw [if_pos (by simp [Region.wanted])]
  left
  simp only [Oper.wp, hrun, Oper.upon]
  rcases g2 with ⟨q1, q2⟩ | ⟨q1, q2⟩
  · exact h1 _ _ ⟨β', H, hfo.putO hd q2, by rw [tset_eq]; exact q1⟩
  · exact h2 _ _ ⟨β', H, hfo.putO hd q2, by rw [tset_eq]; exact q1⟩
end
/-! code in pieces -/
section
variable {P : Program} {C : Ctx} {st : St} {Q : Post}
theorem CodeJ.seqI {x y : Code} (h : CodeJ P C x st (thn (fun st' => CodeJ P C y st' Q) Q)) : CodeJ P C (.seq x y) st Q := by
  intro a w hs
  refine wp_seq (wp_mono (h a w hs) ?_)
  rintro e a' w' ⟨st', h2, h3⟩
  cases e <;> simp only [thn, Exit.then] at h2 ⊢ <;> first | exact h2 a' w' h3 | exact ⟨st', h2, h3⟩
theorem CodeJ.blockI {id : Nat} {c : Code} (h : CodeJ P C c st (blk id Q)) : CodeJ P C (.block id c) st Q := by
  intro a w hs
  refine wp_block (wp_mono (h a w hs) ?_)
  rintro e a' w' ⟨st', h2, h3⟩
  cases e <;> simp only [blk, Exit.inBlock] at h2 ⊢ <;> first | exact ⟨st', h2, h3⟩ | (split at h2 <;> rename_i e <;> first | (rw [if_pos e]; exact ⟨st', h2, h3⟩) | (rw [if_neg e]; exact ⟨st', h2, h3⟩))
theorem CodeJ.condI {c : Operand} {x y : Code} (b : Bool) (hb : ev st.fr c = some (.val (.bool b))) (h1 : b = true → CodeJ P C x st Q) (h2 : b = false → CodeJ P C y st Q) : CodeJ P C (.cond c x y) st Q := by
  rintro a w ⟨β, H, hF, hW⟩
  have hden := ev_den hF hb
  simp only [Den] at hden
  exact wp_cond_split hden.1 (fun ht => h1 ht a w ⟨β, H, hF, hW⟩) (fun hf => h2 hf a w ⟨β, H, hF, hW⟩)
theorem CodeJ.regionI {id : Nat} {ops : Array Oper} (h : OpsJ P C ops ops.toList st Q) : CodeJ P C (.region id ops false) st Q := fun a w hs => wp_region_list (h a w hs)
/-- a loop whose rounds are told in pieces -/
theorem CodeJ.loopC {c : Code} {ι : Type} (I : ι → St) (Cn : ι → Prop) (μ : ι → Nat) (i0 : ι) (h0 : Cn i0) (hl : leS C st (I i0))
    (hr : ∀ i, Cn i → CodeJ P C c (I i) (thn (fun st' => ∃ j, Cn j ∧ μ j < μ i ∧ Le C st' (I j)) Q)) : CodeJ P C (.loop c) st Q := by
  intro a w hs
  refine wp_loop_ix (fun i a w => Cn i ∧ SIM C (I i) a w) μ i0 ⟨h0, Le.syn hl a w hs⟩ ?_
  rintro i a w ⟨hc, hs⟩
  refine wp_mono (hr i hc a w hs) ?_
  rintro e a' w' ⟨st', h1, h2⟩
  cases e <;> simp only [thn, Exit.then] at h1 ⊢ <;> first | exact ⟨st', h1, h2⟩ | skip
  obtain ⟨j, g1, g2, g3⟩ := h1
  exact ⟨j, ⟨g1, g3 a' w' h2⟩, g2⟩
end
section
variable {P : Program} {C : Ctx} {M : Tab}
/-- a call, walked in place, its code in pieces -/
theorem call_hereC {f : FuncId} {fn : Func} {c : Code} {args : List SV} {W : Option (List Nat)} {k : Tab → List Nat → SV → Prop} (hf : P.funcs[f]? = some fn) (hb : fn.body = some c) (hn : args.length ≤ fn.ntmps) (pk : List Nat)
    (hpk : ∀ i ∈ pk, i ∉ C.fx) (hWk : ∀ ks, W = some ks → pk = [] ∧ ∀ i e, tget M i = some e → i ∈ ks)
    (h : ∀ C' : Ctx, C'.fx = (List.range M.length).filter (fun i => !pk.contains i) → CodeJ P C' c ⟨fn.ntmps, argFr 0 args, M⟩ (retH P fn.results.toList pk k)) : CallJ P C f args M W k := by
  intro β H w vals hd hW
  refine calls_of_wp hf hb ?_
  let X : List Nat := (List.range M.length).filterMap fun i => match tget M i, β i with
    | some _, some (some d) => some d.b
    | _, _ => none
  have hX : ∀ b, b ∈ X ↔ ∃ i e d, tget M i = some e ∧ β i = some (some d) ∧ d.b = b := fun b => by
    simp only [X, List.mem_filterMap, List.mem_range]
    constructor
    · rintro ⟨i, hi, he⟩
      split at he
      · rename_i e d h1 h2; simp only [Option.some.injEq] at he; exact ⟨i, e, d, h1, h2, he⟩
      · cases he
    · rintro ⟨i, e, d, hi, hd, rfl⟩
      refine ⟨i, ?_, by simp [hi, hd]⟩
      have := tget_some hi
      exact (List.getElem?_eq_some_iff.1 this).1
  have hown : ∀ b, b ∈ X → C.w0.heap.size ≤ b ∨ b ∈ C.X := fun b hb => by
    obtain ⟨i, e, d, h1, h2, rfl⟩ := (hX b).1 hb
    exact (hW.own i e d (tget_some h1) h2).2
  let C' : Ctx := ⟨w, H, X, β, (List.range M.length).filter (fun i => !pk.contains i)⟩
  have hfx : ∀ i d, i ∉ pk → β i = some d → i ∈ C'.fx := fun i d hi hd => by
    have : i < M.length := by
      rcases Nat.lt_or_ge i M.length with h' | h'
      · exact h'
      · rw [hW.fresh i h'] at hd; cases hd
    simp [C', this, hi]
  have hW0 : WOK C' β H M w := ⟨rfl, rfl, rfl, Nat.le_refl _, fun _ _ _ => rfl, fun _ _ h => h, fun _ _ h => .inl h, hW.inv, hW.ents,
    fun i e d hi hd => ⟨(hW.own i e d hi hd).1, .inr ((hX _).2 ⟨i, e, d, tget_of hi, hd, rfl⟩)⟩, hW.inj, hW.fresh, fun _ _ _ h => h, hW.glob⟩
  refine wp_mono (h C' rfl _ w ⟨β, H, arg_fok hd hn hW.glob rfl (by simp), hW0⟩) ?_
  rintro e a w' ⟨st, hq, β', H', hF, hW'⟩
  have hkeep : ∀ i d, i ∉ pk → β i = some d → β' i = some d := fun i d hi hd => hW'.keep i d (hfx i d hi hd) hd
  have hWC : WOK C β' H' st.M w' := ⟨hW'.os.trans hW.os, hW'.tape.trans hW.tape, hW'.output.trans hW.output, Nat.le_trans hW.size hW'.size,
    fun b hb hx => by
      rw [hW'.frame b (Nat.lt_of_lt_of_le hb hW.size) (fun hbX => by rcases hown b hbX with h' | h'; omega; exact hx h')]; exact hW.frame b hb hx,
    fun b cs hb => hW'.ext b cs (hW.ext b cs hb),
    fun b cs hb => by
      rcases hW'.new b cs hb with h' | h' | h'
      · exact hW.new b cs h'
      · exact .inr (.inl (Nat.le_trans hW.size h'))
      · exact .inr (hown b h'),
    hW'.inv, hW'.ents,
    fun i e d hi hd => ⟨(hW'.own i e d hi hd).1, by
      rcases (hW'.own i e d hi hd).2 with h' | h'
      · exact .inl (Nat.le_trans hW.size h')
      · exact hown _ h'⟩,
    hW'.inj, hW'.fresh, fun i d hi hd => hkeep i d (fun hp => hpk i hp hi) (hW.keep i d hi hd), hW'.glob⟩
  have key : (match retSV P st fn.results.toList with | some (c, x) => c ∧ k st.M pk x | none => False) →
      a.defers = [] ∧ ∃ v, (results fn a.tmps).run P w' = .ok v w' ∧ ∃ β' H' M' v' x pk, Ending.returned v = .returned v' ∧ Den β' H' x v' ∧ WOK C β' H' M' w' ∧ (∀ k d, k ∉ pk → β k = some d → β' k = some d) ∧ (∀ b cs, H b = some cs → H' b = some cs) ∧ k M' pk x ∧
        w.heap.size ≤ w'.heap.size ∧ ∀ ks, W = some ks → pk = [] ∧ ∀ b, b < w.heap.size → (∀ k ∈ ks, ∀ d, β k = some (some d) → b ≠ d.b) → w'.heap[b]? = w.heap[b]? := by
    intro hq
    refine ⟨hF.1.1, ?_⟩
    split at hq
    · rename_i c' x hr
      obtain ⟨v, hv1, hv2⟩ := ret_ok hF hW' hr hq.1
      refine ⟨v, hv1, β', H', st.M, v, x, pk, rfl, hv2, hWC, hkeep, hW'.ext, hq.2, hW'.size, fun ks hks => ?_⟩
      obtain ⟨g1, g2⟩ := hWk ks hks
      refine ⟨g1, fun b hb hn => hW'.frame b hb fun hbX => ?_⟩
      obtain ⟨i, e, d, h1, h2, rfl⟩ := (hX b).1 hbX
      exact hn i (g2 i e h1) d h2 rfl
    · exact hq.elim
  cases e <;> simp only [retH] at hq <;> simp only [bodyPost]
  case normal => exact key hq
  case ret => exact key hq
theorem eff_enterC {f : FuncId} {fn : Func} {c : Code} {args : List SV} {T : Tab} {pk : List Nat} {Φ : Tab → SV → Prop} (hf : P.funcs[f]? = some fn) (hb : fn.body = some c) (hn : args.length ≤ fn.ntmps)
    (h : ∀ C' : Ctx, C'.fx = (List.range T.length).filter (fun i => !pk.contains i) → CodeJ P C' c ⟨fn.ntmps, argFr 0 args, T⟩ (retH P fn.results.toList pk (effK T pk Φ))) : EffC P f args T pk Φ := by
  intro C hC
  exact call_hereC hf hb hn pk (fun i _ hi => by rw [hC] at hi; cases hi) (fun ks h => by cases h) h
end
end Go.Sv

