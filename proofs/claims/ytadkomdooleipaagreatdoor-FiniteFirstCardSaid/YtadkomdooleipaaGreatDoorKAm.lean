/- A slice held against nil, a slice's end cleared, a method called through an interface: what the layer of symbolic values makes of them. A text of the prover's own; it names no program. -/
import Derived.Test.YtadkomdooleipaaGreatDoorKVr
import Derived.Laws.Cover3
namespace Go.Sv
open Go Go.RowKit
section
variable {P : Program} {C : Ctx} {all : Array Oper} {rest : List Oper} {st : St} {R : Post}
/-- a slice of known elements held against nil: where it has none, that is not told -/
theorem OpsJ.nilRo {d : Option Nat} {x : Operand} {op : BinOp} (hop : op = .eql ∨ op = .neq) {t ty el : TypeId} {p : String} {af : Array Edge} {s0 b0 : Nat} {z0 : List SV} {es : List SV}
    (hx : ev st.fr x = some (.ro es)) (ht : tyOf P t = some ⟨.sl el, s0, b0, z0⟩) (hd : dok d st.n)
    (h : ∀ b : Bool, (es ≠ [] → b = false) → OpsJ P C all rest ⟨st.n, putO d (some (.val (.bool (if op = .eql then b else !b)))) st.fr, st.M⟩ R) :
    OpsJ P C all (⟨d, .binOp op t x (.const (.slice none 0 0)) t, ty, p, af, none⟩ :: rest) st R := by
  rintro a w ⟨β, H, hF, hW⟩
  have hden := fOK_den hF x _ hx
  obtain ⟨i0, d0, zz0, hy0⟩ := tyOf_spec ht
  obtain rfl := tk_sl hy0.k
  obtain ⟨base, n, cp, hu, hb⟩ : ∃ base n cp, a.eval x = .slice base n cp ∧ (es ≠ [] → base.isNone = false) := by
    simp only [Den] at hden
    rcases hden with ⟨he, q, c, hu⟩ | ⟨b, o, c, s, cs, vs, hu, _⟩
    · exact ⟨q, 0, c, hu, fun h => absurd he h⟩
    · exact ⟨_, _, _, hu, fun _ => rfl⟩
  have hrun : (execOp a.eval ⟨d, .binOp op t x (.const (.slice none 0 0)) t, ty, p, af, none⟩).run P w = .ok (.value (.bool (if op = .eql then base.isNone else !base.isNone))) w := by
    simp only [execOp, hu]
    rcases hop with rfl | rfl
    · simp [eqGuard, Act.eval, binOp, run_equal_slice_nil w t el base n cp hy0.under]
    · simp [eqGuard, Act.eval, binOp, run_equal_slice_nil w t el base n cp hy0.under]
  unfold wpList
  rw [if_pos (by simp [Region.wanted])]
  left
  simp only [Oper.wp, hrun, Oper.upon]
  exact h base.isNone hb _ _ ⟨β, H, hF.putO hd (den_val rfl), hW⟩
/-- the end of a slice of whole numbers cleared -/
theorem OpsJ.clearEnd {d : Option Nat} {x : Operand} {t ty el : TypeId} {p : String} {af : Array Edge} {s0 b0 b1 : Nat} {z0 : List SV} {es : List SV} (k i n : Nat)
    (hx : ev st.fr x = some (.view k i n)) (ht : tyOf P t = some ⟨.sl el, s0, b0, z0⟩) (hte : tyOf P el = some ⟨.int .i64, 1, b1, [.val (.int .i64 0)]⟩)
    (hk : tget st.M k = some ⟨1, es, false⟩) (hin : i + n = es.length) (hn : 0 < n) (hd : dok d st.n)
    (h : OpsJ P C all rest ⟨st.n, putO d (some (.tup [])) st.fr, tset st.M k (some ⟨1, es.take i ++ List.replicate n (.val (.int .i64 0)), false⟩)⟩ R) :
    OpsJ P C all (⟨d, .call ⟨.builtin .clear, #[x], #[t]⟩, ty, p, af, none⟩ :: rest) st R := by
  rintro a w ⟨β, H, hF, hW⟩
  have hden := fOK_den hF x _ hx
  obtain ⟨i0, d0, zz0, hy0⟩ := tyOf_spec ht
  obtain rfl := tk_sl hy0.k
  obtain ⟨ie, de, ze, hye⟩ := tyOf_spec hte
  have hzc : ze = .int .i64 0 := by
    have h1 := hye.zero
    have h2 := hye.shape
    have h3 := hye.k
    cases de <;> simp [tk] at h3
    cases ze <;> simp [toSV, Value.cells, isAggV, aggD] at h1 h2 <;> simp_all
  subst hzc
  have hk' := tget_some hk
  simp only [Den] at hden
  rcases hden with ⟨_, _, rfl, _⟩ | ⟨dd, c', o, g1, g2, g3, g4, hu⟩
  · omega
  have ho := g4 (by omega)
  rcases hW.ents k _ hk' with ⟨h4, _⟩ | ⟨d', cs, T, vs0, h4, h5, h6, h7, h8, h9, h10, -⟩ | ⟨d', ms, h4, h5, h6, h7⟩
  rotate_left 2
  · simp only at h5; omega
  · rw [g1] at h4; simp at h4
  rw [g1] at h4; simp only [Option.some.injEq] at h4; subst h4
  simp only at h5 h8
  rw [h5] at ho g3
  rw [Nat.mul_one] at ho g3
  have ho' := ho.symm
  subst ho'
  have hl0 := h8.length
  rw [Nat.mul_one] at hl0
  obtain ⟨w', cs', r1, r2, r3, r4⟩ := run_storeCells (P := P) (List.replicate n (Value.int .i64 0)) w i 0 cs h6 (by rw [List.length_replicate, h7]; omega) (fun v hv => by rw [List.eq_of_mem_replicate hv]; rfl)
  have hzl : (Builtin.zeroCells (Value.int IntKind.i64 0).cells n).toList = List.replicate n (Value.int .i64 0) := by
    apply List.ext_getElem
    · simp [Builtin.zeroCells, Value.cells]
    · intro q q1 q2
      simp [Builtin.zeroCells, Value.cells, Nat.mod_one]
  have hrun : (execOp a.eval ⟨d, .call ⟨.builtin .clear, #[x], #[t]⟩, ty, p, af, none⟩).run P w = .ok (.value (.tuple #[])) w' := by
    simp only [execOp, resolve, Sem.run_bind, Sem.run_pure, Result.andThen_ok, invoke, builtin]
    obtain ⟨m, rfl⟩ : ∃ m, n = m + 1 := ⟨n - 1, by omega⟩
    simp [hu, Builtin.clear_, hy0.runUnder, hye.runZero, hzl, r1]
  unfold wpList
  rw [if_pos (by simp [Region.wanted])]
  left
  simp only [Oper.wp, hrun, Oper.upon]
  refine h _ _ ⟨β, H, (hF.putO hd (by simp [Den, DenT])), ?_⟩
  rw [tset_eq]
  have e1 : DenE β H 1 (es.take i ++ List.replicate n (.val (.int .i64 0))) (vs0.take (i * 1) ++ List.replicate n (Value.int .i64 0)) := by
    refine (h8.take i).append ?_
    have := DenE.replicate (β := β) (H := H) (s := 1) (x := .val (.int .i64 0)) (v := .int .i64 0) (den_val rfl) rfl n
    have e : (List.replicate n (Value.int IntKind.i64 0).cells.toList).flatten = List.replicate n (Value.int .i64 0) := by
      show (List.replicate n [Value.int .i64 0]).flatten = _
      simp
    rw [e] at this; exact this
  refine hW.write hk' rfl g1 h5 r2 (by rw [r3, h7]) e1 (by simp; omega) (fun q hq => ?_)
  rw [r4]
  simp only [Nat.add_zero, List.length_replicate, Nat.mul_one] at hq ⊢
  simp only [List.length_append, List.length_take, List.length_replicate] at hq
  by_cases hqi : q < i
  · rw [if_neg (by omega), List.getElem?_append_left (by simp; omega), List.getElem?_take_of_lt hqi]
    exact h10 q (by omega)
  · rw [if_pos ⟨by omega, by omega⟩, List.getElem?_append_right (by simp; omega)]
    congr 1
    simp; omega
/-- a method called through an interface: the value's own method -/
theorem OpsJ.method {d : Option Nat} {recv : Operand} {name : String} {args : Array Operand} {ts : Array TypeId} {ty T : TypeId} {f : FuncId} {p : String} {af : Array Edge} {x : SV} {xs : List SV}
    (hr : ev st.fr recv = some (.ifc T x)) (hm : ∀ v w, (Go.method (P.types.size + Made.depth) T v name).run P w = .ok (f, v) w) (ha : evs st.fr args.toList = some xs) (hf : callOK P f) (hd : dok d st.n)
    (h : CallJ P C f (x :: xs) st.M none fun M' pk y => OpsJ P C all rest ⟨st.n, putO d (some y) (forget pk st.fr), M'⟩ R) :
    OpsJ P C all (⟨d, .call ⟨.invoke recv name, args, ts⟩, ty, p, af, none⟩ :: rest) st R := by
  rintro a w ⟨β, H, hF, hW⟩
  have hden := fOK_den hF recv _ hr
  simp only [Den] at hden
  obtain ⟨v, hv, hx⟩ := hden
  have hvals := evs_den hF _ _ ha
  have hrun : (execOp a.eval ⟨d, .call ⟨.invoke recv name, args, ts⟩, ty, p, af, none⟩).run P w = .ok (.enter f (#[v] ++ args.map a.eval)) w := by
    simp only [execOp, resolve, Sem.run_bind, Sem.run_pure, Result.andThen_ok, invoke, hv]
    have e1 : (#[Value.iface T v] ++ args.map a.eval)[0]? = some (Value.iface T v) := by rw [Array.getElem?_append_left (by simp)]; rfl
    have e2 : (#[Value.iface T v] ++ args.map a.eval).extract 1 (#[Value.iface T v] ++ args.map a.eval).size = args.map a.eval := by
      simp [Array.extract_append]
    simp only [e1, e2, callMethod, Sem.run_bind, Sem.run_pure, Result.andThen_ok]
    simp [hm]
    exact hf _ w
  have hdt : DenT β H (x :: xs) (v :: args.toList.map a.eval) := by
    simp only [DenT]; exact ⟨v, _, rfl, hx, hvals⟩
  have := h β H w _ hdt hW
  unfold wpList
  rw [if_pos (by simp [Region.wanted])]
  left
  simp only [Oper.wp, hrun, Oper.upon]
  rw [show (v :: args.toList.map a.eval).toArray = #[v] ++ args.map a.eval from by apply Array.ext'; simp] at this
  refine Calls.mono this ?_
  rintro e w' ⟨β', H', M', v', x', pk, rfl, g1, g2, g3, g4, g5, -⟩
  exact g5 _ _ ⟨β', H', (hF.forget g3 g4).putO hd g1, g2⟩
/-- a nil slice that is an entry's only cell, taken as an entry of its own -/
theorem Le.nilCell1 {st : St} (k s : Nat) {e : Ent} (hk : tget st.M k = some e) (hes : e.es = [.val (.slice none 0 0)]) (hfz : e.fz = false) :
    Le C st ⟨st.n, st.fr, tset st.M k (some ⟨e.sz, [.view st.M.length 0 0], false⟩) ++ [some ⟨s, [], false⟩]⟩ := by
  rintro a w ⟨β, H, hF, hW⟩
  have hk' := tget_some hk
  have hkl : k < st.M.length := by
    rcases Nat.lt_or_ge k st.M.length with h' | h'
    · exact h'
    · rw [List.getElem?_eq_none h'] at hk'; cases hk'
  have hW2 := hW.nil s
  refine ⟨β.upd st.M.length none, H, hF.mono (upd_old hW none) (fun _ _ h => h), ?_⟩
  have e1 : tset st.M k (some ⟨e.sz, [.view st.M.length 0 0], false⟩) ++ [some (⟨s, [], false⟩ : Ent)] = (st.M ++ [some (⟨s, [], false⟩ : Ent)]).set k (some ⟨e.sz, [.view st.M.length 0 0], false⟩) := by
    rw [tset_eq, List.set_append_left _ _ hkl]
  show WOK C _ H (tset st.M k _ ++ _) w
  rw [e1]
  have hkM : (st.M ++ [some (⟨s, [], false⟩ : Ent)])[k]? = some (some e) := by rw [List.getElem?_append_left hkl]; exact hk'
  refine ⟨hW2.os, hW2.tape, hW2.output, hW2.size, hW2.frame, hW2.ext, hW2.new, hW2.inv, fun i x hi => ?_, fun i x d hi hd => ?_, fun i i' x1 x2 d1 d2 hi hi' hd1 hd2 hb => ?_, fun i hi => hW2.fresh i (by simpa using hi), hW2.keep, hW2.glob⟩
  · rcases getElem?_set_cases hi with ⟨rfl, he, _⟩ | ⟨_, hi'⟩
    · simp only [Option.some.injEq] at he
      subst he
      rcases hW2.ents i e hkM with ⟨h1, h2⟩ | ⟨d, cs, T, vs, h1, h2, h3, h4, h5, h6, h7, h8⟩ | ⟨d, ms, h1, h2, h3, h4⟩
      rotate_left 2
      · rw [hes] at h4
        obtain ⟨q, hq⟩ := h4.tups 0 (by simp)
        simp [lget] at hq
      · rw [hes] at h2; cases h2
      · refine .inr (.inl ⟨d, cs, T, vs, h1, h2, h3, h4, ?_, h6, h7, fun hf => by cases hf⟩)
        rw [hes] at h5
        simp only [DenE] at h5 ⊢
        obtain ⟨v, r, rfl, g1, g2, g3⟩ := h5
        refine ⟨v, r, rfl, g1, ?_, g3⟩
        simp only [Den] at g2 ⊢
        left
        exact ⟨by simp [Bnd.upd], trivial, trivial, g2.1⟩
    · exact hW2.ents i x hi'
  · rcases getElem?_set_cases hi with ⟨rfl, he, _⟩ | ⟨_, hi'⟩
    · simp only [Option.some.injEq] at he
      subst he
      have := hW2.own i e d hkM hd
      exact ⟨fun _ => this.1 hfz, this.2⟩
    · exact hW2.own i x d hi' hd
  · have aux : ∀ (q : Nat) (x : Ent), ((st.M ++ [some (⟨s, [], false⟩ : Ent)]).set k (some ⟨e.sz, [.view st.M.length 0 0], false⟩))[q]? = some (some x) → ∃ x0 : Ent, (st.M ++ [some (⟨s, [], false⟩ : Ent)])[q]? = some (some x0) := fun q x hq => by
      rcases getElem?_set_cases hq with ⟨rfl, _, _⟩ | ⟨_, hq'⟩
      · exact ⟨e, hkM⟩
      · exact ⟨x, hq'⟩
    obtain ⟨y1, hy1⟩ := aux i x1 hi
    obtain ⟨y2, hy2⟩ := aux i' x2 hi'
    exact hW2.inj i i' y1 y2 d1 d2 hy1 hy2 hd1 hd2 hb
end
end Go.Sv

