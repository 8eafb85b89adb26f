/- What is left of the lists, the program's rules as methods. What is left of the lists, the program's way: the rule of a constraint. What is left of the lists, the program's way, whole. What is left of the lists, the program's way: a net of a puzzle, and Narrow. What is left of the lists, the program's Narrow. What the law FiniteNarrow returns. A text of the prover's own. -/
import Derived.Test.YtadkomdooleipaaGreatDoorKOi
import Derived.Test.YtadkomdooleipaaGreatDoorKAr
import Derived.Test.YtadkomdooleipaaGreatDoorKAy
namespace Go.Proofs
open Go.Sv Go Go.Tb Go.Pl Go.Ut Go.Fn
theorem mSum_ok {p : Puz} {n : Nat} {c : Con} (hc : ConOK n c) (hf : FewC c) (k1 : c.kind = 2) {L : Lf} (hL : LOK n L) : EffC Tryz.prog 102 [conV c, .ptr 0 0 0] (NT p L) [1] (RulQ p c L) := by
  have g : EffC Tryz.prog _ [.ptr 0 0 0, conV c] (NT p L) _ (RulQ p c L) := nSum_ok hc  k1 hL
  refine eff_enterC Tryz.func102 rfl (by simp) (fun C hC => ?_)
  have hC : C.fx = [0] := hC
  simp only [NT, netV]
  refine CodeJ.seqI (CodeJ.regionI (OpsJ.go ?_))
  simp
  refine CodeJ.frz 2 rfl (by simp) ?_
  simp [frzS, tset]
  refine CodeJ.go ?_
  simp
  refine callT g [0, 1] (by simp [NT, netV]) (by simp [NT, netV]) (by simp) (by simp [NT, netV, hC]) (by simp [NT, netV]) ?_
  rintro T y ⟨L2, b, rfl, rfl, h⟩
  simp [NT, netV]
  exact ⟨_, _, ⟨L2, b, rfl, rfl, h⟩, rfl, by simp [NT, netV, leM], by simp [NT, netV], .inr ⟨by simp, by simp [ltM, NT, netV]⟩⟩
theorem mTable_ok {p : Puz} {n : Nat} {c : Con} (hc : ConOK n c) (hf : FewC c) (k1 : c.kind = 3) {L : Lf} (hL : LOK n L) : EffC Tryz.prog 108 [conV c, .ptr 0 0 0] (NT p L) [1] (RulQ p c L) := by
  have g : EffC Tryz.prog _ [.ptr 0 0 0, conV c] (NT p L) _ (RulQ p c L) := nTable_ok hc hf k1 hL
  refine eff_enterC Tryz.func108 rfl (by simp) (fun C hC => ?_)
  have hC : C.fx = [0] := hC
  simp only [NT, netV]
  refine CodeJ.seqI (CodeJ.regionI (OpsJ.go ?_))
  simp
  refine CodeJ.frz 2 rfl (by simp) ?_
  simp [frzS, tset]
  refine CodeJ.go ?_
  simp
  refine callT g [0, 1] (by simp [NT, netV]) (by simp [NT, netV]) (by simp) (by simp [NT, netV, hC]) (by simp [NT, netV]) ?_
  rintro T y ⟨L2, b, rfl, rfl, h⟩
  simp [NT, netV]
  exact ⟨_, _, ⟨L2, b, rfl, rfl, h⟩, rfl, by simp [NT, netV, leM], by simp [NT, netV], .inr ⟨by simp, by simp [ltM, NT, netV]⟩⟩
theorem mElement_ok {p : Puz} {n : Nat} {c : Con} (hc : ConOK n c) (hf : FewC c) (k1 : c.kind = 4) {L : Lf} (hL : LOK n L) : EffC Tryz.prog 112 [conV c, .ptr 0 0 0] (NT p L) [1] (RulQ p c L) := by
  have g : EffC Tryz.prog _ [.ptr 0 0 0, conV c] (NT p L) _ (RulQ p c L) := nElement_ok hc  k1 hL
  refine eff_enterC Tryz.func112 rfl (by simp) (fun C hC => ?_)
  have hC : C.fx = [0] := hC
  simp only [NT, netV]
  refine CodeJ.seqI (CodeJ.regionI (OpsJ.go ?_))
  simp
  refine CodeJ.frz 2 rfl (by simp) ?_
  simp [frzS, tset]
  refine CodeJ.go ?_
  simp
  refine callT g [0, 1] (by simp [NT, netV]) (by simp [NT, netV]) (by simp) (by simp [NT, netV, hC]) (by simp [NT, netV]) ?_
  rintro T y ⟨L2, b, rfl, rfl, h⟩
  simp [NT, netV]
  exact ⟨_, _, ⟨L2, b, rfl, rfl, h⟩, rfl, by simp [NT, netV, leM], by simp [NT, netV], .inr ⟨by simp, by simp [ltM, NT, netV]⟩⟩
theorem mShare_ok {p : Puz} {n : Nat} {c : Con} (hc : ConOK n c) (hf : FewC c) (k1 : c.kind = 5) {L : Lf} (hL : LOK n L) : EffC Tryz.prog 120 [conV c, .ptr 0 0 0] (NT p L) [1] (RulQ p c L) := by
  have g : EffC Tryz.prog _ [.ptr 0 0 0, conV c] (NT p L) _ (RulQ p c L) := nShare_ok hc  k1 hL
  refine eff_enterC Tryz.func120 rfl (by simp) (fun C hC => ?_)
  have hC : C.fx = [0] := hC
  simp only [NT, netV]
  refine CodeJ.seqI (CodeJ.regionI (OpsJ.go ?_))
  simp
  refine CodeJ.frz 2 rfl (by simp) ?_
  simp [frzS, tset]
  refine CodeJ.go ?_
  simp
  refine callT g [0, 1] (by simp [NT, netV]) (by simp [NT, netV]) (by simp) (by simp [NT, netV, hC]) (by simp [NT, netV]) ?_
  rintro T y ⟨L2, b, rfl, rfl, h⟩
  simp [NT, netV]
  exact ⟨_, _, ⟨L2, b, rfl, rfl, h⟩, rfl, by simp [NT, netV, leM], by simp [NT, netV], .inr ⟨by simp, by simp [ltM, NT, netV]⟩⟩
theorem mDiffer_ok {p : Puz} {n : Nat} {c : Con} (hc : ConOK n c) (hf : FewC c) (k1 : c.kind = 1) {L : Lf} (hL : LOK n L) : EffC Tryz.prog 94 [conV c, .ptr 0 0 0] (NT p L) [1] (RulQ p c L) := by
  have g : EffC Tryz.prog _ [.ptr 0 0 0, conV c] (NT p L) _ (RulQ p c L) := nDiffer_ok hc  k1 hL
  refine eff_enterC Tryz.func94 rfl (by simp) (fun C hC => ?_)
  have hC : C.fx = [0] := hC
  simp only [NT, netV]
  refine CodeJ.seqI (CodeJ.regionI (OpsJ.go ?_))
  simp
  refine CodeJ.frz 2 rfl (by simp) ?_
  simp [frzS, tset]
  refine CodeJ.go ?_
  simp
  refine callT g [0, 1] (by simp [NT, netV]) (by simp [NT, netV]) (by simp) (by simp [NT, netV, hC]) (by simp [NT, netV]) ?_
  rintro T y ⟨L2, b, rfl, rfl, h⟩
  simp [NT, netV]
  exact ⟨_, _, ⟨L2, b, rfl, rfl, h⟩, rfl, by simp [NT, netV, leM], by simp [NT, netV], .inr ⟨by simp, by simp [ltM, NT, netV]⟩⟩
end Go.Proofs
namespace Go.Sv
open Go
@[simp] theorem if_st {fs : List (Nat × Nat × TypeId)} {s b : Nat} {z : List SV} {t : TypeId} {x : SV} : evIface (some ⟨.st fs, s, b, z⟩) t (some x) = .q True (.ifc t x) := rfl
end Go.Sv
namespace Go.Fn
open Go Go.Sv Go.Pl Go.Proofs Go.Tb Go.Ut
theorem conV_agg (c : Con) : SV.agg (conV c).cells = conV c := rfl
/-- which rule -/
def ruT (k : Int) : TypeId := if k = 1 then 93 else if k = 2 then 94 else if k = 3 then 95 else if k = 4 then 96 else 97
end Go.Fn
namespace Go.Proofs
open Go.Sv Go Go.Tb Go.Pl Go.Ut Go.Fn
set_option maxRecDepth 10000 in
theorem ruleOf_ok (c : Con) : PureF Tryz.prog 32 [conV c] (.ifc (ruT c.kind) (conV c)) := by
  obtain ⟨k, hk⟩ : ∃ k, c.kind = k := ⟨_, rfl⟩
  refine pure_enterJ Tryz.func32 rfl (by simp) (fun C hC => ?_)
  refine CodeJ.seqI (CodeJ.regionI (OpsJ.go ?_))
  simp
  refine CodeJ.frz 0 rfl (by simp) ?_
  simp [frzS, tset]
  refine CodeJ.go ?_
  rw [hk]
  by_cases k1 : k = 1
  · subst k1; simp [hk, ruT, conV_agg]
  by_cases k2 : k = 2
  · subst k2; simp [hk, ruT, conV_agg]
  by_cases k3 : k = 3
  · subst k3; simp [hk, ruT, conV_agg]
  by_cases k4 : k = 4
  · subst k4; simp [hk, ruT, conV_agg]
  · simp [hk, ruT, k1, k2, k3, k4, conV_agg]
/-- the rule's method: what it does, and that it is found -/
theorem mth_ok {p : Puz} {n : Nat} {c : Con} (hc : ConOK n c) (hf : FewC c) : ∃ f : FuncId, callOK Tryz.prog f ∧ (∀ v w, (Go.method (Tryz.prog.types.size + Made.depth) (ruT c.kind) v "optima/finite.narrow").run Tryz.prog w = .ok (f, v) w) ∧
    ∀ L : Lf, LOK n L → EffC Tryz.prog f [conV c, .ptr 0 0 0] (NT p L) [1] (RulQ p c L) := by
  have hd := hc.kd
  by_cases k1 : c.kind = 1
  · rw [k1]; exact ⟨_, by simp, fun v w => by kernel_rfl, fun L hL => mDiffer_ok hc hf k1 hL⟩
  by_cases k2 : c.kind = 2
  · rw [k2]; exact ⟨_, by simp, fun v w => by kernel_rfl, fun L hL => mSum_ok hc hf k2 hL⟩
  by_cases k3 : c.kind = 3
  · rw [k3]; exact ⟨_, by simp, fun v w => by kernel_rfl, fun L hL => mTable_ok hc hf k3 hL⟩
  by_cases k4 : c.kind = 4
  · rw [k4]; exact ⟨_, by simp, fun v w => by kernel_rfl, fun L hL => mElement_ok hc hf k4 hL⟩
  have k5 : c.kind = 5 := by omega
  rw [k5]; exact ⟨_, by simp, fun v w => by kernel_rfl, fun L hL => mShare_ok hc hf k5 hL⟩
end Go.Proofs
namespace Go.Fn
open Go Go.Sv Go.Pl Go.Proofs Go.Tb Go.Ut
/-- what narrowing comes to, in the net -/
def NrwQ (p : Puz) (L : Lf) (T : Tab) (y : SV) : Prop := ∃ (L' : Lf) (ok : Bool), T = NT p L' ∧ y = bov ok ∧ Nar ⟨L, p.cons⟩ L L' ok
structure LR where
  ag : Bool
  L : Lf
structure NrwI (p : Puz) (L L' : Lf) (ag : Bool) : Prop where
  left : Left p L L'
  fin : ag = false → Cns p L'
end Go.Fn
namespace Go.Proofs
open Go.Sv Go Go.Tb Go.Pl Go.Ut Go.Fn
set_option maxRecDepth 10000 in
set_option maxHeartbeats 2000000 in
theorem nNarrow_ok (p : Puz) (L0 : Lf) (hp : PuzOK ⟨L0, p.cons⟩) : EffC Tryz.prog 21 [.ptr 0 0 0] (NT p L0) [1] (NrwQ p L0) := by
  have hcn : p.cons.length ≤ 8 := hp.few.c
  have hv6 : L0.length ≤ 6 := hp.few.v
  refine eff_enterC Tryz.func21 rfl (by simp) (fun C hC => ?_)
  have hC : C.fx = [0] := hC
  refine CodeJ.go ?_
  simp only [NT, netV]
  simp
  refine CodeJ.loop (ι := LR) (fun ⟨ag, L⟩ => ⟨27, [(0, .ptr 0 0 0), (3, bov ag)], NT p L⟩)
    (fun ⟨ag, L⟩ => NrwI ⟨L0, p.cons⟩ L0 L ag) (fun ⟨ag, L⟩ => 2 * size L + ag.toNat) ⟨true, L0⟩ ?_ ?_ ?_
  · exact ⟨left_0 _ _, fun h => by cases h⟩
  · simp [leS, hC, NT, netV]
  rintro ⟨ag, L⟩ ⟨hl, hfin⟩
  have ll := hl.len
  cases ag with
  | false =>
    simp only [NT, netV]
    simp
    refine callT (nEmpty_ok p L (by omega)) [0, 1] (by simp [NT, netV]) (by simp [NT, netV]) (by simp) (by simp [NT, netV]) (by simp [NT, netV]) ?_
    rintro T y ⟨rfl, b, rfl, hb⟩
    simp [NT, netV]
    refine ⟨_, _, ⟨L, !b, rfl, rfl, ?_⟩, rfl, by simp [NT, netV, leM], by simp [NT, netV], .inl rfl⟩
    cases b with
    | true => exact hl.no (hb.1 rfl)
    | false =>
      have ne : NE L := Classical.byContradiction fun h => by have := hb.2 h; cases this
      exact ⟨hl.len, hl.sub, hl.fam, fun _ => ⟨ne, hfin rfl⟩, fun e => by cases e⟩
  | true =>
    simp only [NT, netV]
    simp
    refine CodeJ.loopC (ι := LI) (fun ⟨i, ag, L2⟩ => ⟨27, [(0, .ptr 0 0 0), (3, bov ag), (11, .ro (p.cons.map conV)), (12, iv p.cons.length), (13, iv i)], NT p L2⟩)
      (fun ⟨i, ag, L2⟩ => i ≤ p.cons.length ∧ Round ⟨L0, p.cons⟩ L L2 ag i) (fun ⟨i, ag, L2⟩ => p.cons.length - i) ⟨0, false, L⟩ ?_ ?_ ?_
    · exact ⟨Nat.zero_le _, round_0 _ L⟩
    · simp [leS, hC, NT, netV]
    rintro ⟨i, ag, L2⟩ ⟨hi, hr⟩
    have l2 := hr.len
    have hl2 := hl.round hr
    simp only [NT, netV]
    by_cases hlt : i < p.cons.length
    · have lc := lget_conV hlt
      have hm := gt_mem hlt
      obtain ⟨f, hf1, hf2, hf3⟩ := mth_ok (p := p) (n := L0.length) (hp.con _ hm) (hp.few.k _ hm)
      refine CodeJ.seqI (CodeJ.regionI (OpsJ.go ?_))
      simp
      refine CodeJ.seqI (CodeJ.condI true (by simp [hlt]) (fun _ => ?_) (fun q => by cases q))
      refine CodeJ.go ?_
      simp
      refine CodeJ.seqI (CodeJ.blockI ?_)
      generalize hce : gt p.cons i = c at *
      refine CodeJ.cutAt 2 (fun st => NE L2 ∧ st = ⟨27, [(0, .ptr 0 0 0), (3, bov ag), (5, .ptr 2 0 0), (11, .ro (p.cons.map conV)), (12, iv p.cons.length), (13, iv i)], NT p L2 ++ [some ⟨6, [conV c], false⟩]⟩) ?_ ?_
      · simp only [takeC_succ, takeC_zero]
        simp (disch := omega) [hlt, lc]
        repeat (refine And.intro (by omega) ?_)
        refine callT (nEmpty_ok p L2 (by omega)) [0, 1] (by simp [NT, netV]) (by simp [NT, netV]) (by simp) (by simp [NT, netV]) (by simp [NT, netV]) ?_
        rintro T y ⟨rfl, b, rfl, hb⟩
        simp [NT, netV]
        refine ⟨fun e => ?_, fun e => ?_⟩
        · exact ⟨_, _, ⟨L2, false, rfl, rfl, hl2.no (hb.1 e)⟩, rfl, by simp [NT, netV, leM], by simp [NT, netV], .inr ⟨by simp, by simp [ltM, NT, netV]⟩⟩
        · have ne : NE L2 := Classical.byContradiction fun h => by rw [hb.2 h] at e; cases e
          exact ⟨_, ⟨ne, rfl⟩, by simp [leS, hC, NT, netV]⟩
      rintro st ⟨ne, rfl⟩
      simp only [dropC_succ, dropC_zero, NT, netV, List.cons_append, List.nil_append]
      refine CodeJ.seqI (CodeJ.regionI (OpsJ.step rfl ?_))
      simp
      refine OpsJ.step rfl ?_
      simp
      refine callS (ruleOf_ok c) (by simp) ?_
      simp
      refine OpsJ.step rfl ?_
      simp
      refine OpsJ.method (x := conV c) (xs := [.ptr 0 0 0]) (by simp) hf2 (by simp) hf1 (by simp) ?_
      refine callT (hf3 L2 (left_lok hp hl2 ne)) [0, 1] (by simp) (by simp [NT, netV]) (by simp) (by simp [NT, netV, hC]) (by simp) ?_
      rintro T y ⟨L3, b, rfl, rfl, hR⟩
      have h3 := hr.step hlt (by rw [hce]; exact hR)
      simp [NT, netV]
      refine OpsJ.go ?_
      simp
      refine CodeJ.go ?_
      simp
      refine ⟨fun e => ?_, fun e => ?_⟩
      all_goals
        refine CodeJ.go ?_
        simp
        exact ⟨⟨i + 1, b || ag, L3⟩, ⟨hlt, h3⟩, Nat.sub_succ_lt_self _ _ hlt, Le.syn (by simp (disch := omega) [leS, hC, w64, NT, netV, e])⟩
    · obtain rfl : i = p.cons.length := by omega
      refine CodeJ.go ?_
      simp
      refine ⟨⟨ag, L2⟩, ⟨hl2, fun e => ?_⟩, ?_, by simp (disch := omega) [leS, hC, w64, NT, netV]⟩
      · obtain ⟨q1, q2⟩ := hr.no e
        intro c hc
        obtain ⟨j, hj, rfl⟩ := List.getElem_of_mem hc
        show CnsC _ L2
        rw [gt_get hj, q1]; exact q2 j hj
      · cases ag with
        | true =>
          have := hr.yes rfl
          show 2 * size L2 + 1 < _
          omega
        | false =>
          rw [(hr.no rfl).1]
          show 2 * size L + 0 < _
          omega
end Go.Proofs
namespace Go.Proofs
open Go.Sv Go Go.Tb Go.Pl Go.Ut Go.Fn
set_option maxRecDepth 10000 in
set_option maxHeartbeats 2000000 in
theorem nFresh_ok {p : Puz} (hp : PuzOK p) : EffC Tryz.prog 15 [puzV p] [] [] (fun T y => T = NT p p.values ∧ y = .ptr 0 0 0) := by
  have hv6 := hp.few.v
  refine eff_enterC Tryz.func15 rfl (by simp) (fun C hC => ?_)
  have hC : C.fx = [] := hC
  refine CodeJ.wk ?_
  refine CodeJ.seqI (CodeJ.regionI (OpsJ.go ?_))
  simp
  refine CodeJ.frz 0 rfl (by simp) ?_
  simp [frzS, tset]
  refine CodeJ.seqI (CodeJ.regionI (OpsJ.go ?_))
  simp
  refine ⟨rfl, ?_⟩
  have pe : (puzV p).cells ++ [SV.val (.slice none 0 0)] = [.ro (p.values.map ilv), .ro (p.cons.map conV), .val (.slice none 0 0)] := rfl
  rw [pe]
  refine CodeJ.le (Le.nilCell 1 2 1 rfl rfl rfl rfl (by simp)) ?_
  simp [tset]
  refine CodeJ.go ?_
  simp
  refine CodeJ.loopL (ι := Nat) (fun i => ⟨29, [(3, .ptr 1 0 0), (10, .ro (p.values.map ilv)), (11, iv p.values.length), (12, iv i)], [none, some ⟨3, [.agg [.ro (p.values.map ilv), .ro (p.cons.map conV), .view 2 0 i]], false⟩, some ⟨1, (p.values.take i).map ilv, false⟩]⟩)
    (fun i => i ≤ p.values.length) (fun i => p.values.length - i) 0 (by omega) ?_ ?_
  · simp [leS, hC, lset]
  rintro i hi
  by_cases hlt : i < p.values.length
  · have lv := lget_ilv hlt
    have l12 := hp.few.l _ (gt_mem hlt)
    have tk : p.values.take (i + 1) = p.values.take i ++ [gt p.values i] := take_gt hlt
    have tl : (p.values.take i).length = i := by simp; omega
    generalize gt p.values i = l at *
    generalize p.values.take i = X at *
    simp (disch := omega) [hlt, lv]
    repeat (refine And.intro (by omega) ?_)
    refine CodeJ.draw (.qs [0, 1, 2, 3, 4, 5] <| .l 6 [] <| .l 7 [] <| .l 8 [1000000] <| .qs [9, 10] <| .l 11 [1, 1000000] <| .nil) (by kernel_rfl) (by kernel_rfl) (by simp) ?_
    simp (disch := omega) [hlt, lv, tl]
    repeat (refine And.intro (by omega) ?_)
    refine callT (slClone_ok l (by omega)) [] (by simp) (by simp) (by simp) (by simp) (by simp) ?_
    rintro T y ⟨rfl, rfl⟩
    have rr : ∀ σ, renL σ (l.map iv) = l.map iv := fun σ => renL_pure σ _ (by simp)
    have ss : ∀ (es : List SV) (Y : Lf), sbL 3 es (Y.map ilv) = Y.map ilv := fun es Y => sbL_pure _ _ _ (by simp)
    simp
    simp (disch := omega) [tl, rr]
    repeat (refine And.intro (by omega) ?_)
    have tk' : List.take (i + 1) (p.values.map ilv) = X.map ilv ++ [ilv l] := by rw [← List.map_take, tk, List.map_append]; rfl
    refine ⟨⟨by simp [hC], by omega⟩, i + 1, by omega, by omega, (Le.frz 3 rfl (by simp)).trans (Le.syn ?_)⟩
    simp (disch := omega) [frzS, tset, leS, hC, w64, tk', tl, rr, ss, sbL_app]
  · obtain rfl : i = p.values.length := by omega
    simp
    refine ⟨⟨29, [(2, .ptr 0 0 0)], NT p p.values⟩, Le.permF (fun k => if k = 0 then 1 else if k = 1 then 2 else k + 1000) (fun k hk => ?_) rfl (fun a b ha hb e => ?_) (fun k hk => ?_) (fun k e hk => ?_) (fun t x hg => ?_), ?_⟩
    · rw [hC] at hk; simp at hk
    · simp [NT] at ha hb
      by_cases a0 : a = 0 <;> by_cases b0 : b = 0 <;> by_cases a1 : a = 1 <;> by_cases b1 : b = 1 <;> simp_all
    · simp [NT] at hk
      rw [if_neg (by omega), if_neg (by omega)]
      simp
    · match k, hk with
      | 0, hk => simp [NT] at hk; subst hk; simp [renE, netV]
      | 1, hk => simp [NT] at hk; subst hk; simp [renE]
      | k + 2, hk => simp [NT] at hk
    · by_cases e : t = 2
      · subst e
        simp [Go.Sv.get] at hg
        subst hg
        simp [Go.Sv.get]
      · simp [Go.Sv.get, e, show ¬ 2 = t from fun h => e h.symm] at hg
    · simp
      exact ⟨_, _, ⟨rfl, rfl⟩, rfl, by simp [leM], .inl rfl⟩
end Go.Proofs
namespace Go.Fn
open Go Go.Sv Go.Pl Go.Proofs Go.Tb Go.Ut
end Go.Fn
namespace Go.Proofs
open Go.Sv Go Go.Tb Go.Pl Go.Ut Go.Fn
end Go.Proofs
namespace Go.Fn
open Go Go.Sv Go.Pl Go.Proofs Go.Tb Go.Ut
end Go.Fn
namespace Go.Proofs
open Go.Sv Go Go.Tb Go.Pl Go.Ut Go.Fn
theorem same_ok (a : List Int) (ha : a.length ≤ 1000000) : PureF Tryz.prog 6 [ilv a, ilv a] (bov true) := by
  refine pure_enter Tryz.func6 rfl (by simp) (fun C hC => ?_)
  simp
  refine CodeJ.loop (ι := Nat) (fun i => ⟨26, [(0, ilv a), (1, ilv a), (5, iv i)], []⟩)
    (fun i => i ≤ a.length) (fun i => a.length - i) 0 (by omega) ?_ ?_
  · simp [leS, hC]
  rintro i hi
  by_cases hlt : i < a.length
  · have lv := lget_iv hlt
    simp (disch := omega) [hlt]
    repeat (refine And.intro (by omega) ?_)
    refine CodeJ.draw (.qs [0, 1, 2, 3, 4, 5, 6, 7, 8] <| .nil) (by kernel_rfl) (by kernel_rfl) (by simp) ?_
    simp (disch := omega) [hlt, lv]
    repeat (refine And.intro (by omega) ?_)
    exact ⟨i + 1, by omega, by omega, by simp (disch := omega) [leS, hC, w64]⟩
  · obtain rfl : i = a.length := by omega
    simp
end Go.Proofs

