/- What is left of the lists, the program's rules: places and shares. A text of the prover's own. -/
import Derived.Test.YtadkomdooleipaaGreatDoorKOc
namespace Go.Sv
@[simp] theorem okC_mf {st : St} {f : Go.Fn} {x y : Array Operand} : okC st (.makeFunc f x y) = True := rfl
end Go.Sv
namespace Go.Fn
open Go Go.Sv Go.Pl Go.Proofs Go.Tb Go.Ut
def inB (l : List Int) (v : Int) : Bool := decide (v ∈ l)
/-- a place's number: may it be this one? -/
def elB1 (L : Lf) (vs : List Int) (s : Nat) (v : Int) : Bool := decide (0 ≤ v) && decide (v < vs.length) && (gt L (gt vs v.toNat).toNat).any (inB (gt L s))
/-- a value: is it at a place that may be? -/
def elB2 (L : Lf) (vs : List Int) (a : Nat) (v : Int) : Bool := (gt L a).any fun i => inB (gt L (gt vs i.toNat).toNat) v
end Go.Fn
namespace Go.Proofs
open Go.Sv Go Go.Tb Go.Pl Go.Ut Go.Fn
set_option maxRecDepth 10000 in
/-- of numbers: does a function that reads the net say yes of one? -/
theorem slAnyN_ok (p : Puz) (L : Lf) (l : List Int) (hl : l.length ≤ 1000000) (F : FuncId) (caps : List SV) (hren : ∀ σ : Nat → Nat, σ 0 = 0 → σ 1 = 1 → σ 2 = 2 → renL σ caps = caps) (hlt : ∀ n, 3 ≤ n → SV.ltL n caps = true) (hF : callOK Tryz.prog F) (q : Int → Bool)
    (g : ∀ v ∈ l, EffC Tryz.prog F (iv v :: caps) (NT p L ++ [nC]) [] (fun T y => T = NT p L ++ [nC] ∧ y = bov (q v))) :
    EffC Tryz.prog 115 [.ro (l.map iv), .fnv F [] caps] (NT p L ++ [nC]) [] (fun T y => T = NT p L ++ [nC] ∧ y = bov (l.any q)) := by
  have hu : SV.usesL 3 caps = false := SV.ltL_uses (Nat.le_refl 3) _ (hlt 3 (Nat.le_refl 3))
  have h3 := hlt 3 (Nat.le_refl 3)
  obtain ⟨b, hb⟩ : ∃ b, l.any q = b := ⟨_, rfl⟩
  rw [hb]
  have gi : EffC Tryz.prog 101 [.ro (l.map iv), .fnv F [] caps] (NT p L ++ [nC]) [] (fun T y => T = NT p L ++ [nC] ∧ ∃ n : Int, y = iv n ∧ (0 ≤ n ↔ b = true)) := by
    refine eff_enterC Tryz.func101 rfl (by simp) (fun C hC => ?_)
    have hC : C.fx = [0, 1, 2] := hC
    refine CodeJ.go ?_
    simp
    refine CodeJ.loop (ι := Nat) (fun i => ⟨19, [(0, .ro (l.map iv)), (1, .fnv F [] caps), (7, iv l.length), (8, iv i)], NT p L ++ [nC]⟩)
      (fun i => i ≤ l.length ∧ ∀ j, j < i → q (gt l j) = false) (fun i => l.length - i) 0 ?_ ?_ ?_
    · exact ⟨by omega, fun j hj => by omega⟩
    · simp [leS, hC]
    rintro i ⟨hi, hf⟩
    by_cases hlt' : i < l.length
    · have gg := g _ (gt_mem hlt')
      have yes : q (gt l i) = true → b = true := fun h => by rw [← hb]; exact List.any_eq_true.2 ⟨_, gt_mem hlt', h⟩
      have st := @step_lt (fun j => q (gt l j) = false) i hf
      have lv := lget_iv hlt'
      generalize gt l i = r at *
      simp (disch := omega) [hlt', lv, hF]
      repeat (refine And.intro (by omega) ?_)
      refine callT gg [0, 1, 2] (by simp []) (by simp [NT, netV, nC]) (by simp [hren (sg [0, 1, 2] 3) rfl rfl rfl, NT, netV, nC]) (by simp [NT, netV, nC]) (by simp []) ?_
      rintro T y ⟨rfl, rfl⟩
      simp [NT, netV, nC]
      refine ⟨fun e => ?_, fun e => ?_⟩
      · exact ⟨_, _, ⟨rfl, i, rfl, ⟨fun _ => yes e, fun _ => by omega⟩⟩, rfl, by simp [leM], by simp, .inl rfl⟩
      · exact ⟨i + 1, ⟨by omega, st e⟩, by omega, by simp (disch := omega) [leS, hC, w64]⟩
    · obtain rfl : i = l.length := by omega
      simp
      refine ⟨_, _, ⟨rfl, -1, rfl, ⟨fun h => by omega, fun h => ?_⟩⟩, rfl, by simp [NT, netV, nC], by simp [NT, netV, nC], .inl rfl⟩
      rw [← hb, List.any_eq_true] at h
      obtain ⟨r, hr, h⟩ := h
      obtain ⟨j, hj, rfl⟩ := mem_gt hr
      rw [hf j hj] at h; cases h
  refine eff_enterC Tryz.func115 rfl (by simp) (fun C hC => ?_)
  have hC : C.fx = [0, 1, 2] := hC
  refine CodeJ.go ?_
  simp
  refine callT gi [0, 1, 2] (by simp []) (by simp [NT, netV, nC]) (by simp [hren (sg [0, 1, 2] 3) rfl rfl rfl, NT, netV, nC]) (by simp [NT, netV, nC]) (by simp []) ?_
  rintro T y ⟨rfl, n, rfl, hn⟩
  simp [NT, netV, nC]
  exact ⟨_, _, ⟨rfl, rfl⟩, by simp [hn], by simp [leM], by simp, .inl rfl⟩
set_option maxRecDepth 10000 in
theorem hel11_ok (p : Puz) (L : Lf) (s : Nat) (hs : s < L.length) (h12 : (gt L s).length ≤ 12) (u : Int) : EffC Tryz.prog 116 [iv u, .ptr 2 0 0, .rop (iv s) 0] (NT p L ++ [nC]) [] (fun T y => T = NT p L ++ [nC] ∧ y = bov (inB (gt L s) u)) := by
  have lv := lget_ilv hs
  have g := slContains_ok (gt L s) (by omega) u
  refine eff_enterC Tryz.func116 rfl (by simp) (fun C hC => ?_)
  have hC : C.fx = [0, 1, 2] := hC
  refine CodeJ.go ?_
  simp only [NT, netV, nC, List.cons_append, List.nil_append]
  simp
  refine CodeJ.draw (.qs [0, 1, 2, 3, 4, 5, 6, 7] <| .l 8 [] <| .qs [9] <| .nil) (by kernel_rfl) (by kernel_rfl) (by simp) ?_
  simp (disch := omega) [hs, lv]
  repeat (refine And.intro (by omega) ?_)
  refine callS (g) (by simp) ?_
  simp
  exact ⟨_, _, ⟨rfl, rfl⟩, rfl, by simp [leM], by simp, .inl rfl⟩
theorem hel3_ok (p : Puz) (L : Lf) (s : Nat) (hs : s < L.length) (h12 : (gt L s).length ≤ 12) (u : Int) : EffC Tryz.prog 119 [iv u, .ptr 2 0 0, .rop (iv s) 0] (NT p L ++ [nC]) [] (fun T y => T = NT p L ++ [nC] ∧ y = bov (inB (gt L s) u)) := by
  have lv := lget_ilv hs
  have g := slContains_ok (gt L s) (by omega) u
  refine eff_enterC Tryz.func119 rfl (by simp) (fun C hC => ?_)
  have hC : C.fx = [0, 1, 2] := hC
  refine CodeJ.go ?_
  simp only [NT, netV, nC, List.cons_append, List.nil_append]
  simp
  refine CodeJ.draw (.qs [0, 1, 2, 3, 4, 5, 6, 7] <| .l 8 [] <| .qs [9] <| .nil) (by kernel_rfl) (by kernel_rfl) (by simp) ?_
  simp (disch := omega) [hs, lv]
  repeat (refine And.intro (by omega) ?_)
  refine callS (g) (by simp) ?_
  simp
  exact ⟨_, _, ⟨rfl, rfl⟩, rfl, by simp [leM], by simp, .inl rfl⟩
set_option maxRecDepth 10000 in
theorem hel1_ok (p : Puz) (L : Lf) (vs : List Int) (hv : vs.length ≤ 8) (hvs : ∀ k, k < vs.length → 0 ≤ gt vs k ∧ gt vs k < L.length) (l12 : ∀ k, k < L.length → (gt L k).length ≤ 12) (s : Nat) (hs : s < L.length) (v : Int) :
    EffC Tryz.prog 114 [iv v, .rop (.ro (vs.map iv)) 0, .ptr 2 0 0, .rop (iv s) 0] (NT p L ++ [nC]) [] (fun T y => T = NT p L ++ [nC] ∧ y = bov (elB1 L vs s v)) := by
  refine eff_enterC Tryz.func114 rfl (by simp) (fun C hC => ?_)
  have hC : C.fx = [0, 1, 2] := hC
  refine CodeJ.go ?_
  simp only [NT, netV, nC, List.cons_append, List.nil_append]
  simp
  refine CodeJ.draw (.qs [0, 1, 2, 3, 4, 5, 6, 7, 8, 9, 10, 11, 12, 13, 14, 15, 16, 17, 18, 19] <| .l 20 [0, 1, 2] <| .qs [21, 22] <| .nil) (by kernel_rfl) (by kernel_rfl) (by simp) ?_
  by_cases h1 : 0 ≤ v
  · by_cases h2 : v < vs.length
    · obtain ⟨k, rfl⟩ : ∃ k : Nat, v = (k : Int) := ⟨v.toNat, by omega⟩
      have hk : k < vs.length := by omega
      obtain ⟨d1, d2⟩ := hvs k hk
      have lk' := lget_iv hk
      have eq : elB1 L vs s (k : Int) = (gt L (gt vs k).toNat).any (inB (gt L s)) := by simp [elB1, h1, h2]
      rw [eq]
      obtain ⟨u, eu⟩ : ∃ u : Nat, gt vs k = (u : Int) := ⟨(gt vs k).toNat, by omega⟩
      rw [eu] at d2 lk'
      rw [eu, Int.toNat_natCast]
      have hu : u < L.length := by omega
      have lv := lget_ilv hu
      have g := slAnyN_ok p L (gt L u) (by have := l12 u hu; omega) 116 [.ptr 2 0 0, .rop (iv s) 0] (fun σ h0 h1 h2 => by simp [h2]) (fun n hn => by simp; omega) (by simp) (inB (gt L s)) (fun w _ => hel11_ok p L s hs (l12 s hs) w)
      generalize (gt L u).any (inB (gt L s)) = b at *
      simp (disch := omega) [h1, h2, lk', hu, lv]
      repeat (refine And.intro (by omega) ?_)
      refine callT g [0, 1, 2] (by simp []) (by simp [NT, netV, nC]) (by simp) (by simp [NT, netV, nC]) (by simp []) ?_
      rintro T y ⟨rfl, rfl⟩
      simp [NT, netV, nC]
      exact ⟨_, _, ⟨rfl, rfl⟩, rfl, by simp [leM], by simp, .inl rfl⟩
    · have eq : elB1 L vs s v = false := by simp [elB1, h2]
      rw [eq]
      simp (disch := omega) [h1, h2]
      repeat (refine And.intro (by omega) ?_)
      exact ⟨_, _, ⟨rfl, rfl⟩, rfl, by simp [leM], by simp, .inl rfl⟩
  · have eq : elB1 L vs s v = false := by simp [elB1, h1]
    rw [eq]
    simp (disch := omega) [h1]
    repeat (refine And.intro (by omega) ?_)
    exact ⟨_, _, ⟨rfl, rfl⟩, rfl, by simp [leM], by simp, .inl rfl⟩
set_option maxRecDepth 10000 in
theorem hel21_ok (p : Puz) (L : Lf) (vs : List Int) (hv : vs.length ≤ 8) (hvs : ∀ k, k < vs.length → 0 ≤ gt vs k ∧ gt vs k < L.length) (l12 : ∀ k, k < L.length → (gt L k).length ≤ 12) (v i : Int) (h1 : 0 ≤ i) (h2 : i < vs.length) :
    EffC Tryz.prog 118 [iv i, .ptr 2 0 0, .rop (.ro (vs.map iv)) 0, .rop (iv v) 0] (NT p L ++ [nC]) [] (fun T y => T = NT p L ++ [nC] ∧ y = bov (inB (gt L (gt vs i.toNat).toNat) v)) := by
  obtain ⟨k, rfl⟩ : ∃ k : Nat, i = (k : Int) := ⟨i.toNat, by omega⟩
  have hk : k < vs.length := by omega
  obtain ⟨d1, d2⟩ := hvs k hk
  have lk' := lget_iv hk
  rw [Int.toNat_natCast]
  obtain ⟨u, eu⟩ : ∃ u : Nat, gt vs k = (u : Int) := ⟨(gt vs k).toNat, by omega⟩
  rw [eu] at d2 lk'
  rw [eu, Int.toNat_natCast]
  have hu : u < L.length := by omega
  have lv := lget_ilv hu
  have g := slContains_ok (gt L u) (by have := l12 u hu; omega) v
  refine eff_enterC Tryz.func118 rfl (by simp) (fun C hC => ?_)
  have hC : C.fx = [0, 1, 2] := hC
  refine CodeJ.go ?_
  simp only [NT, netV, nC, List.cons_append, List.nil_append]
  simp
  refine CodeJ.draw (.qs [0, 1, 2, 3, 4, 5, 6, 7, 8, 9, 10] <| .l 11 [] <| .qs [12] <| .nil) (by kernel_rfl) (by kernel_rfl) (by simp) ?_
  simp (disch := omega) [hk, lk', hu, lv]
  repeat (refine And.intro (by omega) ?_)
  refine callS (g) (by simp) ?_
  simp
  exact ⟨_, _, ⟨rfl, rfl⟩, rfl, by simp [leM], by simp, .inl rfl⟩
set_option maxRecDepth 10000 in
theorem hel2_ok (p : Puz) (L : Lf) (vs : List Int) (hv : vs.length ≤ 8) (hvs : ∀ k, k < vs.length → 0 ≤ gt vs k ∧ gt vs k < L.length) (l12 : ∀ k, k < L.length → (gt L k).length ≤ 12) (a : Nat) (ha : a < L.length) (hb : ∀ i ∈ gt L a, 0 ≤ i ∧ i < vs.length) (v : Int) :
    EffC Tryz.prog 117 [iv v, .ptr 2 0 0, .rop (iv a) 0, .rop (.ro (vs.map iv)) 0] (NT p L ++ [nC]) [] (fun T y => T = NT p L ++ [nC] ∧ y = bov (elB2 L vs a v)) := by
  have lv := lget_ilv ha
  have g := slAnyN_ok p L (gt L a) (by have := l12 a ha; omega) 118 [.ptr 2 0 0, .rop (.ro (vs.map iv)) 0, .rop (iv v) 0] (fun σ h0 h1 h2 => by simp [h2]) (fun n hn => by simp; omega) (by simp) (fun i => inB (gt L (gt vs i.toNat).toNat) v) (fun i hi => hel21_ok p L vs hv hvs l12 v i (hb i hi).1 (hb i hi).2)
  have e : elB2 L vs a v = (gt L a).any fun i => inB (gt L (gt vs i.toNat).toNat) v := rfl
  rw [← e] at g
  generalize elB2 L vs a v = b at *
  refine eff_enterC Tryz.func117 rfl (by simp) (fun C hC => ?_)
  have hC : C.fx = [0, 1, 2] := hC
  simp only [NT, netV, nC, List.cons_append, List.nil_append]
  refine CodeJ.seqI (CodeJ.regionI (OpsJ.go ?_))
  simp
  refine CodeJ.frz 3 rfl (by simp) ?_
  simp [frzS, tset]
  refine CodeJ.go ?_
  simp
  refine CodeJ.draw (.qs [0, 1, 2, 3, 4, 5, 6, 7] <| .l 8 [0, 1, 2] <| .qs [9] <| .nil) (by kernel_rfl) (by kernel_rfl) (by simp) ?_
  simp (disch := omega) [ha, lv]
  repeat (refine And.intro (by omega) ?_)
  refine callT g [0, 1, 2] (by simp []) (by simp [NT, netV, nC]) (by simp) (by simp [NT, netV, nC]) (by simp []) ?_
  rintro T y ⟨rfl, rfl⟩
  simp [NT, netV, nC]
  exact ⟨_, _, ⟨rfl, rfl⟩, rfl, by simp [leM], by simp, .inr ⟨by simp, by simp [ltM]⟩⟩
end Go.Proofs
namespace Go.Fn
open Go Go.Sv Go.Pl Go.Proofs Go.Tb Go.Ut
theorem gt_drop {l : List Int} {n k : Nat} (h : n + k < l.length) : gt (l.drop n) k = gt l (n + k) := by
  rw [← gt_get (show k < (l.drop n).length by simp; omega), ← gt_get h]
  simp
section
variable {n : Nat} {c : Con} {L L' : Lf} {ag : Bool}
theorem lk_vs {k : Nat} (hk : k < (c.vars.drop 2).length) : gt L (gt (c.vars.drop 2) k).toNat = lk c L (2 + k) := by
  unfold lk; rw [gt_drop (by simp at hk; omega)]
theorem may_4 (k4 : c.kind = 4) {i : Nat} {v : Int} : May c L i v ↔ PlcM c L i v := by
  unfold May; rw [if_neg (by omega), if_neg (by omega), if_neg (by omega), if_pos k4]
theorem el0 (k4 : c.kind = 4) {v : Int} : elB1 L (c.vars.drop 2) (gt c.vars 1).toNat v = true ↔ May c L 0 v := by
  rw [may_4 k4]
  unfold PlcM
  rw [if_pos rfl]
  simp only [elB1, Bool.and_eq_true, decide_eq_true_eq, List.any_eq_true, inB]
  by_cases h : 0 ≤ v ∧ v < (c.vars.drop 2).length
  · obtain ⟨h1, h2⟩ := h
    rw [lk_vs (show v.toNat < (c.vars.drop 2).length by omega)]
    simp at h2
    exact ⟨fun ⟨_, w, h3, h4⟩ => ⟨h1, by omega, w, h3, h4⟩, fun ⟨_, _, w, h3, h4⟩ => ⟨⟨h1, by simp; omega⟩, w, h3, h4⟩⟩
  · exact ⟨fun q => absurd q.1 h, fun q => absurd ⟨q.1, by have := q.2.1; simp; omega⟩ h⟩
theorem el1 (k4 : c.kind = 4) (hb : ∀ i ∈ lk c L 0, 0 ≤ i ∧ i < (c.vars.drop 2).length) {v : Int} : elB2 L (c.vars.drop 2) (gt c.vars 0).toNat v = true ↔ May c L 1 v := by
  rw [may_4 k4]
  unfold PlcM
  rw [if_neg (by omega), if_pos rfl]
  simp only [elB2, List.any_eq_true, inB, decide_eq_true_eq]
  constructor
  · rintro ⟨x, h1, h2⟩
    obtain ⟨b1, b2⟩ := hb x h1
    rw [lk_vs (show x.toNat < (c.vars.drop 2).length by omega)] at h2
    simp at b2
    exact ⟨x, h1, b1, by omega, h2⟩
  · rintro ⟨x, h1, _, _, h2⟩
    obtain ⟨b1, b2⟩ := hb x h1
    exact ⟨x, h1, by rw [lk_vs (show x.toNat < (c.vars.drop 2).length by omega)]; exact h2⟩
theorem el3 (k4 : c.kind = 4) (hs : Sofar c L L' ag (fun j => j < 1 + 1)) (h1 : (lk c L' 0).length ≠ 1) : Sofar c L L' ag (fun j => j < c.vars.length) := by
  refine hs.wid fun e j hj => ?_
  subst e
  by_cases q : j < 2
  · exact .inl q
  · refine .inr fun v _ => ?_
    rw [may_4 k4]
    unfold PlcM
    rw [if_neg (by omega), if_neg (by omega)]
    exact fun h => absurd (by rw [h]; rfl) h1
theorem el2 (k4 : c.kind = 4) (hc : ConOK n c) (hn : L.length = n) (hs : Sofar c L L' ag (fun j => j < 1 + 1)) {x : Int} (h1 : lk c L' 0 = [x]) (x0 : 0 ≤ x) (xl : x < (c.vars.drop 2).length) {u : Nat} (hu : gt c.vars (2 + x.toNat) = (u : Int)) :
    Sofar c L (L'.set u ((gt L' u).filter (inB (lk c L' 1)))) (decide (((gt L' u).filter (inB (lk c L' 1))).length < (gt L' u).length) || ag) (fun j => j < c.vars.length) := by
  have l2 := hc.k4 k4
  simp at xl
  have hx : 2 + x.toNat < c.vars.length := by omega
  have hu' : u < L.length := by have := hc.va _ hx; omega
  have lu : ∀ M : Lf, gt M u = lk c M (2 + x.toNat) := fun M => by unfold lk; rw [hu, Int.toNat_natCast]
  have hin : ∀ k, k < c.vars.length → (gt c.vars k).toNat < L'.length := fun k hk => by rw [hs.len, hn]; exact hc.at hk
  refine hs.keep hu' (inB (lk c L' 1)) (fun F af nf df cf v hv => ?_) (fun e hall j hj => ?_)
  · have hF : ∀ k, k < c.vars.length → (gt c.vars k).toNat < F.length := fun k hk => by rw [df.len]; exact hin k hk
    rw [lu] at hv
    have hm := cf _ hx v hv
    rw [may_4 k4] at hm
    unfold PlcM at hm
    rw [if_neg (by omega), if_neg (by omega)] at hm
    have h0 : lk c F 0 = [((2 + x.toNat : Nat) : Int) - 2] := by
      have sub : ∀ w ∈ lk c F 0, w = x := fun w hw => by
        have := df.mem _ (hin 0 (by omega)) w hw
        have e : gt L' (gt c.vars 0).toNat = [x] := h1
        rw [e] at this; simpa using this
      have ne := nf _ (hF 0 (by omega))
      have aas := af _ (hF 0 (by omega))
      have e : lk c F 0 = gt F (gt c.vars 0).toNat := rfl
      rw [← e] at ne aas
      match hl : lk c F 0, ne with
      | [w], _ =>
        have := sub w (by rw [hl]; simp)
        rw [this, show (((2 + x.toNat : Nat) : Int) - 2) = x by omega]
      | w :: y :: r, _ =>
        rw [hl] at aas
        have h2 := sub w (by rw [hl]; simp)
        have h3 := sub y (by rw [hl]; simp)
        have := (List.pairwise_cons.1 aas).1 y (by simp)
        omega
    exact decide_eq_true (df.mem _ (hin 1 (by omega)) v (hm h0))
  · by_cases q : j < 2
    · exact .inl q
    · refine .inr fun v hv => ?_
      rw [may_4 k4]
      unfold PlcM
      rw [if_neg (by omega), if_neg (by omega)]
      intro h
      subst e
      rw [h1] at h
      have ej : j = 2 + x.toNat := by simp at h; omega
      subst ej
      rw [← lu] at hv
      have := hall v hv
      exact of_decide_eq_true this
end
end Go.Fn
namespace Go.Proofs
open Go.Sv Go Go.Tb Go.Pl Go.Ut Go.Fn
set_option maxRecDepth 10000 in
set_option maxHeartbeats 2000000 in
theorem nElement_ok {p : Puz} {n : Nat} {c : Con} (hc : ConOK n c) (k4 : c.kind = 4) {L : Lf} (hL : LOK n L) : EffC Tryz.prog 113 [.ptr 0 0 0, conV c] (NT p L) [] (RulQ p c L) := by
  have h8 := hc.vl
  have l2 := hc.k4 k4
  have e0 : 0 < c.vars.length := by omega
  have e1 : 1 < c.vars.length := by omega
  obtain ⟨a, ea, ha, lka, a12, a0, ab⟩ := hL.nat hc e0
  obtain ⟨s, es, hs, lks, s12, s0, sb⟩ := hL.nat hc e1
  have v0 := lget_iv (l := c.vars) e0
  have v1 := lget_iv (l := c.vars) e1
  rw [ea] at v0
  rw [es] at v1
  obtain ⟨vs, evs⟩ : ∃ vs, c.vars.drop 2 = vs := ⟨_, rfl⟩
  have vsl : vs.length = c.vars.length - 2 := by rw [← evs]; simp
  have vsg : ∀ k, k < vs.length → gt vs k = gt c.vars (2 + k) := fun k hk => by rw [← evs, gt_drop (by omega)]
  have vse : List.drop 2 (List.map iv c.vars) = vs.map iv := by rw [← evs, List.map_drop]
  refine eff_enterC Tryz.func113 rfl (by simp) (fun C hC => ?_)
  have hC : C.fx = [0, 1] := hC
  simp only [NT, netV]
  refine CodeJ.seqI (CodeJ.regionI (OpsJ.go ?_))
  simp
  refine CodeJ.frz 3 rfl (by simp) ?_
  simp [frzS, tset]
  refine CodeJ.cutAt 1 (fun st => st = ⟨64, [(2, .ptr 2 0 0), (3, .rop (conV c) 0), (5, .ptr 4 0 0), (6, .ptr 5 0 0), (7, .ptr 6 0 0)], NT p L ++ [nC, none, some ⟨1, [iv a], false⟩, some ⟨1, [iv s], false⟩, some ⟨1, [.ro (vs.map iv)], false⟩]⟩) ?_ ?_
  · simp only [takeC_succ, takeC_zero]
    simp
    refine CodeJ.drawZ (.d 11 <| .d 12 <| .d 13 <| .qs [0, 1, 2, 3, 4] <| .q 5 [4] <| .qs [6] <| .q 7 [4] <| .qs [8] <| .q 9 [4, 5] <| .qs [10] <| .b (.l 14 [4] <| .l 15 [5] <| .l 16 [6] <| .nil)) (by kernel_rfl) (by kernel_rfl) (by simp) ?_
    simp (disch := omega) [e0, v0, v1, vse]
    repeat (refine And.intro (by omega) ?_)
    simp [leS, hC, NT, netV, nC]
  rintro st rfl
  simp only [dropC_succ, dropC_zero, NT, netV, nC, List.cons_append, List.nil_append]
  refine CodeJ.frz 4 rfl (by simp) ?_
  simp [frzS, tset]
  refine CodeJ.frz 5 rfl (by simp) ?_
  simp [frzS, tset]
  refine CodeJ.frz 6 rfl (by simp) ?_
  simp [frzS, tset]
  refine CodeJ.go ?_
  have hvs : ∀ M : Lf, M.length = L.length → ∀ k, k < vs.length → 0 ≤ gt vs k ∧ gt vs k < M.length := fun M hM k hk => by
    rw [vsg k hk, hM, hL.len]; exact hc.va _ (by omega)
  have b12 : ∀ (M : Lf) (ag : Bool) (D : Nat → Prop), Sofar c L M ag D → ∀ k, k < M.length → (gt M k).length ≤ 12 := fun M ag D h k hk => by
    have hk' : k < L.length := by rw [← h.len]; exact hk
    exact Nat.le_trans (h.cut.sub k hk').length_le (hL.l12 k (by rw [← hL.len]; exact hk'))
  have lk0 : ∀ M : Lf, lk c M 0 = gt M a := fun M => by unfold lk; rw [ea, Int.toNat_natCast]
  have lk1 : ∀ M : Lf, lk c M 1 = gt M s := fun M => by unfold lk; rw [es, Int.toNat_natCast]
  have q0 := fun (M : Lf) (v : Int) => @el0 c M k4 v
  have q1 := fun (M : Lf) (hb : _) (v : Int) => @el1 c M k4 hb v
  rw [evs] at q0 q1
  rw [es, Int.toNat_natCast] at q0
  rw [ea, Int.toNat_natCast] at q1
  -- which place
  have sm := (sofar_0 c L).may hc hL.len hL.asc hL.ne e0 (elB1 L vs s) fun v _ => q0 L v
  rw [ea, lk0, Int.toNat_natCast] at sm
  obtain ⟨L1, b1, f1, eb1, l1, hs1, w1, z1, n1⟩ := sofar_two ha hL.ne sm
  have g1 := nKeep_ok p L a ha a12 [nC] 114 [.rop (.ro (vs.map iv)) 0, .ptr 2 0 0, .rop (iv s) 0] (.inr ⟨rfl, fun σ h0 h1 h2 => by simp [h2]⟩) (fun n hn => by simp at hn; simp; omega) (by simp) (elB1 L vs s) (fun v hv => hel1_ok p L vs (by omega) (hvs L rfl) (b12 L _ _ (sofar_0 c L)) s hs v)
  have fb : ∀ i ∈ gt L1 a, 0 ≤ i ∧ i < vs.length := fun i hi => by
    rw [← f1, gt_setL ha, if_pos rfl] at hi
    have := (List.mem_filter.1 hi).2
    simp only [elB1, Bool.and_eq_true, decide_eq_true_eq] at this
    exact this.1
  rw [f1, eb1] at g1
  simp
  refine callT g1 [0, 1, 2] (by simp []) (by simp [NT, netV, nC]) (by simp) (by simp [NT, netV, nC]) (by simp []) ?_
  rintro T y ⟨rfl, rfl⟩
  have ha1 : a < L1.length := by omega
  have hs1' : s < L1.length := by omega
  have la1 := lget_ilv ha1
  simp [NT, netV, nC]
  refine CodeJ.draw (.qs [0, 1, 2, 3, 4, 5, 6, 7, 8] <| .nil) (by kernel_rfl) (by kernel_rfl) (by simp) ?_
  simp (disch := omega) [ha1, la1]
  repeat (refine And.intro (by omega) ?_)
  refine ⟨fun z => ?_, fun z => ?_⟩
  · rw [z1 (by simp [z]), Bool.true_or] at hs1
    exact ⟨_, _, ⟨L1, true, rfl, rfl, hs1.stop rfl⟩, rfl, by simp [NT, netV, leM], by simp [NT, netV], .inr ⟨by simp, by simp [ltM, NT, netV]⟩⟩
  have ne1 : NE L1 := n1 (List.length_pos_iff.2 z)
  -- which value
  have sm1 := Sofar.may (i := 1) hc hL.len hL.asc hs1 ne1 e1 (elB2 L1 vs a) fun v _ => q1 L1 (by rw [lk0]; exact fb) v
  rw [es, lk1, Int.toNat_natCast] at sm1
  obtain ⟨L2, b2, f2, eb2, l2', hs2, w2, z2, n2⟩ := sofar_two hs1' ne1 sm1
  have g2 := nKeep_ok p L1 s hs1' (b12 L1 _ _ hs1 s hs1') [nC] 117 [.ptr 2 0 0, .rop (iv a) 0, .rop (.ro (vs.map iv)) 0] (.inr ⟨rfl, fun σ h0 h1 h2 => by simp [h2]⟩) (fun n hn => by simp at hn; simp; omega) (by simp) (elB2 L1 vs a) (fun v hv => hel2_ok p L1 vs (by omega) (hvs L1 l1) (b12 L1 _ _ hs1) a ha1 fb v)
  have fb2 : ∀ i ∈ gt L2 a, 0 ≤ i ∧ i < vs.length := fun i hi => by
    rw [← f2, gt_setL ha1] at hi
    split at hi
    · rename_i e; rw [e] at hi; exact fb i (List.mem_filter.1 hi).1
    · exact fb i hi
  rw [f2, eb2] at g2
  refine callT g2 [0, 1, 2] (by simp []) (by simp [NT, netV, nC]) (by simp) (by simp [NT, netV, nC]) (by simp []) ?_
  rintro T y ⟨rfl, rfl⟩
  have ha2 : a < L2.length := by omega
  have hs2' : s < L2.length := by omega
  have la2 := lget_ilv ha2
  simp [NT, netV, nC]
  refine ⟨fun e2 => ?_, fun e2 => ?_⟩
  all_goals
    refine CodeJ.draw (.qs [0, 1, 2, 3, 4, 5, 6, 7, 8] <| .nil) (by kernel_rfl) (by kernel_rfl) (by simp) ?_
    by_cases q : (gt L2 a).length = 1
    · obtain ⟨x, ex⟩ := List.length_eq_one_iff.1 q
      obtain ⟨x0, xl⟩ := fb2 x (by rw [ex]; simp)
      obtain ⟨xk, exk⟩ : ∃ xk : Nat, x = (xk : Int) := ⟨x.toNat, by omega⟩
      have hxk : xk < vs.length := by omega
      have lx := lget_iv (l := vs) hxk
      have lx2 := lget_iv (l := gt L2 a) (i := 0) (by omega)
      have ex0 : gt (gt L2 a) 0 = (xk : Int) := by rw [ex, ← exk]; rfl
      rw [ex0] at lx2
      obtain ⟨u1, u2⟩ := hvs L2 (by omega) xk hxk
      obtain ⟨u, eu⟩ : ∃ u : Nat, gt vs xk = (u : Int) := ⟨(gt vs xk).toNat, by omega⟩
      have hu : u < L2.length := by omega
      have hs3 := el2 k4 hc hL.len hs2 (x := x) (by rw [lk0, ex]) x0 (by rw [evs]; exact xl) (u := u) (by rw [← eu, vsg xk hxk, exk, Int.toNat_natCast])
      rw [lk1] at hs3
      have g3 := nKeep_ok p L2 u hu (b12 L2 _ _ hs2 u hu) [nC] 119 [.ptr 2 0 0, .rop (iv s) 0] (.inr ⟨rfl, fun σ h0 h1 h2 => by simp [h2]⟩) (fun n hn => by simp at hn; simp; omega) (by simp) (inB (gt L2 s)) (fun v hv => hel3_ok p L2 s hs2' (b12 L2 _ _ hs2 s hs2') v)
      obtain ⟨L3, f3⟩ : ∃ L3, L2.set u ((gt L2 u).filter (inB (gt L2 s))) = L3 := ⟨_, rfl⟩
      obtain ⟨b3, eb3⟩ : ∃ b3, decide (((gt L2 u).filter (inB (gt L2 s))).length < (gt L2 u).length) = b3 := ⟨_, rfl⟩
      rw [f3, eb3] at hs3 g3
      rw [eu] at lx
      simp (disch := omega) [ha2, la2, q]
      repeat (refine And.intro (by omega) ?_)
      refine CodeJ.draw (.qs [0, 1, 2, 3, 4, 5, 6, 7, 8, 9, 10, 11, 12, 13] <| .l 14 [0, 1, 2] <| .nil) (by kernel_rfl) (by kernel_rfl) (by simp) ?_
      simp (disch := omega) [ha2, la2, q, lx2, hxk, lx]
      repeat (refine And.intro (by omega) ?_)
      refine callT g3 [0, 1, 2] (by simp []) (by simp [NT, netV, nC]) (by simp) (by simp [NT, netV, nC]) (by simp []) ?_
      rintro T y ⟨rfl, rfl⟩
      simp [NT, netV, nC]
      refine ⟨fun e3 => ?_, fun e3 => ?_⟩
      all_goals
        exact ⟨_, _, ⟨L3, _, rfl, rfl, hs3.rule fun j hj => hj⟩, by simp [e2, e3], by simp [NT, netV, leM], by simp [NT, netV], .inr ⟨by simp, by simp [ltM, NT, netV]⟩⟩
    · have hs3 := el3 k4 hs2 (by rw [lk0]; exact q)
      have q' : ¬ ((gt L2 a).length : Int) = 1 := by omega
      simp (disch := omega) [ha2, la2, q']
      repeat (refine And.intro (by omega) ?_)
      exact ⟨_, _, ⟨L2, _, rfl, rfl, hs3.rule fun j hj => hj⟩, by simp [e2], by simp [NT, netV, leM], by simp [NT, netV], .inr ⟨by simp, by simp [ltM, NT, netV]⟩⟩
end Go.Proofs
namespace Go.Proofs
open Go.Sv Go Go.Tb Go.Pl Go.Ut Go.Fn
set_option maxRecDepth 10000 in
set_option maxHeartbeats 2000000 in
theorem share1_ok (p : Puz) {n : Nat} {c : Con} (hc : ConOK n c) (h5 : c.kind = 5) {L : Lf} (hL : LOK n L) (i : Nat) (hi : i < c.vars.length) (v : Int) (hv : Bd8 v) :
    EffC Tryz.prog 122 [iv v, .rop (conV c) 0, .ptr 2 0 0, .rop (iv i) 0] (NT p L ++ [nC]) [] (fun T y => T = NT p L ++ [nC] ∧ y = bov (shrB c L i (momL c L i v c.vars.length))) := by
  have h8 := hc.vl
  obtain ⟨n5, u5, p5⟩ := hc.k5 h5
  have ub : ∀ k, k < c.vars.length → 0 ≤ gt c.uses k ∧ gt c.uses k ≤ 100000000 := fun k hk => ⟨(p5 k hk).2, (hc.us k (by omega)).2⟩
  have la := fun (k : Nat) (hk : k < c.vars.length) => hL.nat hc hk
  have lv := fun (k : Nat) (hk : k < c.vars.length) => lget_iv (l := c.vars) hk
  have ln := fun (k : Nat) (hk : k < c.vars.length) => lget_iv (l := c.nums) (i := k) (by omega)
  have lu := fun (k : Nat) (hk : k < c.vars.length) => lget_iv (l := c.uses) (i := k) (by omega)
  have n_i := ln i hi
  have u_i := lu i hi
  have en : i < c.nums.length := by omega
  have eu : i < c.uses.length := by omega
  have bn := hc.nu i en
  have bu := ub i hi
  unfold Bd8 at hv
  refine eff_enterC Tryz.func122 rfl (by simp) (fun C hC => ?_)
  have hC : C.fx = [0, 1, 2] := hC
  refine CodeJ.go ?_
  simp only [NT, netV, nC, List.cons_append, List.nil_append]
  simp
  refine CodeJ.loop (ι := LW1) (fun ⟨k, w⟩ => ⟨107, [(0, iv v), (1, .rop (conV c) 0), (2, .ptr 2 0 0), (3, .rop (iv i) 0), (6, .view 3 0 w.length), (18, ilv c.vars), (19, iv c.vars.length), (20, iv k)], NT p L ++ [nC, some ⟨1, w.map iv, false⟩]⟩)
    (fun ⟨k, w⟩ => k ≤ c.vars.length ∧ w = momL c L i v k ∧ w.length ≤ k + 1) (fun ⟨k, w⟩ => c.vars.length - k) ⟨0, [v]⟩ ?_ ?_ ?_
  · exact ⟨by omega, rfl, by simp⟩
  · simp [leS, hC, NT, netV, nC]
  rintro ⟨k, w⟩ ⟨hk, hw, hwl⟩
  simp only [NT, netV, nC, List.cons_append, List.nil_append]
  by_cases hkl : k < c.vars.length
  · obtain ⟨u, ek, hu, lk', l12, l0, wb⟩ := la k hkl
    have vk := lv k hkl
    rw [ek] at vk
    have hb := low_bd wb l0
    have gh := nHigh_ok p L u hu l0 l12
    have ms : momL c L i v (k + 1) = if k ≠ i ∧ v ≤ high (lk c L k) ∧ high (lk c L k) < v + gt c.nums i then momL c L i v k ++ [high (lk c L k)] else momL c L i v k := rfl
    have hb2 := hb.2
    unfold Bd8 at hb2
    rw [lk', ← hw] at ms
    generalize high (gt L u) = hg at *
    simp (disch := omega) [hkl, vk]
    repeat (refine And.intro (by omega) ?_)
    refine callT gh [0, 1] (by simp []) (by simp [NT, netV]) (by simp) (by simp [NT, netV]) (by simp []) ?_
    rintro T y ⟨rfl, rfl⟩
    simp [NT, netV]
    by_cases c1 : k = i
    · rw [if_neg (by simp [c1])] at ms
      subst c1
      simp (disch := omega) [w64]
      repeat (refine And.intro (by omega) ?_)
      exact ⟨⟨k + 1, w⟩, ⟨hkl, ms.symm, Nat.le_succ_of_le hwl⟩, Nat.sub_succ_lt_self _ _ hkl, by simp (disch := omega) [leS, hC]⟩
    · have c1' : ¬ (k : Int) = i := by omega
      have stay : ¬ (v ≤ hg ∧ hg < v + gt c.nums i) → w = momL c L i v (k + 1) := fun h => by rw [if_neg (fun h' => h h'.2)] at ms; exact ms.symm
      by_cases c2 : v ≤ hg
      · have c2' : ¬ hg < v := by omega
        by_cases c3 : hg < v + gt c.nums i
        · have c3' : ¬ v + gt c.nums i ≤ hg := by omega
          rw [if_pos ⟨c1, c2, c3⟩] at ms
          simp (disch := omega) [c1', c2, c3, c2', n_i, en, w64]
          repeat (refine And.intro (by omega) ?_)
          exact ⟨⟨by simp [hC], by omega⟩, ⟨k + 1, w ++ [hg]⟩, ⟨hkl, ms.symm, by simp; exact hwl⟩, Nat.sub_succ_lt_self _ _ hkl, by simp (disch := omega) [leS, hC]⟩
        · have c3' : v + gt c.nums i ≤ hg := by omega
          simp (disch := omega) [c1', c2, c3, c2', n_i, en, w64]
          repeat (refine And.intro (by omega) ?_)
          exact ⟨⟨k + 1, w⟩, ⟨hkl, stay (by omega), Nat.le_succ_of_le hwl⟩, Nat.sub_succ_lt_self _ _ hkl, by simp (disch := omega) [leS, hC]⟩
      · have c2' : hg < v := by omega
        simp (disch := omega) [c1', c2, c2', n_i, en, w64]
        repeat (refine And.intro (by omega) ?_)
        exact ⟨⟨k + 1, w⟩, ⟨hkl, stay (by omega), Nat.le_succ_of_le hwl⟩, Nat.sub_succ_lt_self _ _ hkl, by simp (disch := omega) [leS, hC]⟩
  · obtain rfl : k = c.vars.length := by omega
    rw [← hw]
    simp
    refine CodeJ.frz 3 rfl (by simp) ?_
    simp [frzS, tset]
    have wl : w.length ≤ 9 := by omega
    obtain ⟨b, hb⟩ : ∃ b, shrB c L i w = b := ⟨_, rfl⟩
    rw [hb]
    refine CodeJ.loop (ι := Nat) (fun t => ⟨107, [(0, iv v), (1, .rop (conV c) 0), (2, .ptr 2 0 0), (3, .rop (iv i) 0), (52, .ro (w.map iv)), (53, iv w.length), (54, iv t)], NT p L ++ [nC]⟩)
      (fun t => t ≤ w.length ∧ ∀ j, j < t → gt c.uses i + useS c L i (gt w j) c.vars.length ≤ c.limit) (fun t => w.length - t) 0 ?_ ?_ ?_
    · exact ⟨by omega, fun j hj => by omega⟩
    · simp [leS, hC, NT, netV, nC]
    rintro t ⟨ht, hd⟩
    simp only [NT, netV, nC, List.cons_append, List.nil_append]
    by_cases htl : t < w.length
    · have lw := lget_iv htl
      have hm := gt_mem htl
      have st := @step_lt (fun j => gt c.uses i + useS c L i (gt w j) c.vars.length ≤ c.limit) t hd
      have no : ¬ gt c.uses i + useS c L i (gt w t) c.vars.length ≤ c.limit → b = false := fun q => by
        rw [← hb]
        simp only [shrB, List.all_eq_false]
        exact ⟨_, hm, by simpa using q⟩
      generalize gt w t = m at *
      simp (disch := omega) [htl, lw, u_i, eu]
      repeat (refine And.intro (by omega) ?_)
      refine CodeJ.loop (ι := Nat) (fun k => ⟨107, [(0, iv v), (1, .rop (conV c) 0), (2, .ptr 2 0 0), (3, .rop (iv i) 0), (11, iv m), (12, iv (gt c.uses i + useS c L i m k)), (52, .ro (w.map iv)), (53, iv w.length), (54, iv t), (64, ilv c.vars), (65, iv c.vars.length), (66, iv k)], NT p L ++ [nC]⟩)
        (fun k => k ≤ c.vars.length) (fun k => c.vars.length - k) 0 (by omega) ?_ ?_
      · simp [leS, hC, useS, sumN, NT, netV, nC]
      rintro k hk
      simp only [NT, netV, nC, List.cons_append, List.nil_append]
      by_cases hkl : k < c.vars.length
      · obtain ⟨u, ek, hu, lk', l12, l0, wb⟩ := la k hkl
        have vk := lv k hkl
        rw [ek] at vk
        have nk := ln k hkl
        have uk := lu k hkl
        have hb := low_bd wb l0
        have gh := nHigh_ok p L u hu l0 l12
        have gl := nLow_ok p L u hu l0
        have ms : useS c L i m (k + 1) = useS c L i m k + if k ≠ i ∧ high (lk c L k) ≤ m ∧ m < low (lk c L k) + gt c.nums k then gt c.uses k else 0 := rfl
        have bs := useS_bd (c := c) (L := L) (m := m) (i := i) ub k (by omega)
        have bk := ub k hkl
        have bnk := hc.nu k (by omega)
        have ekn : k < c.nums.length := by omega
        have eku : k < c.uses.length := by omega
        obtain ⟨hb1, hb2⟩ := hb
        unfold Bd8 at hb1 hb2
        rw [lk'] at ms
        generalize high (gt L u) = hg at *
        generalize low (gt L u) = lo at *
        simp (disch := omega) [hkl, vk]
        repeat (refine And.intro (by omega) ?_)
        refine CodeJ.draw (.qs [0, 1, 2, 3, 4, 5, 7] <| .l 6 [0, 1] <| .qs [8, 9, 10, 11, 12, 13, 15] <| .q 16 [0, 1] <| .qs [17, 18] <| .q 19 [0, 1] <| .l 14 [0, 1] <| .qs [20, 21, 22] <| .nil) (by kernel_rfl) (by kernel_rfl) (by simp) ?_
        by_cases c1 : k = i
        · rw [if_neg (by simp [c1])] at ms
          subst c1
          simp (disch := omega) [w64]
          repeat (refine And.intro (by omega) ?_)
          exact ⟨k + 1, by omega, by omega, by simp (disch := omega) [leS, hC, ms]⟩
        · have c1' : ¬ (k : Int) = i := by omega
          have stay : ¬ (hg ≤ m ∧ m < lo + gt c.nums k) → useS c L i m (k + 1) = useS c L i m k := fun h => by rw [if_neg (fun h' => h h'.2)] at ms; omega
          simp (disch := omega) [c1']
          repeat (refine And.intro (by omega) ?_)
          refine callT gh [0, 1] (by simp []) (by simp [NT, netV]) (by simp) (by simp [NT, netV]) (by simp []) ?_
          rintro T y ⟨rfl, rfl⟩
          simp [NT, netV]
          by_cases c2 : hg ≤ m
          · have c2' : ¬ m < hg := by omega
            simp (disch := omega) [c2, c2', nk, ekn]
            repeat (refine And.intro (by omega) ?_)
            refine callT gl [0, 1] (by simp []) (by simp [NT, netV]) (by simp) (by simp [NT, netV]) (by simp []) ?_
            rintro T y ⟨rfl, rfl⟩
            simp [NT, netV]
            by_cases c3 : m < lo + gt c.nums k
            · have c3' : ¬ lo + gt c.nums k ≤ m := by omega
              rw [if_pos ⟨c1, c2, c3⟩] at ms
              simp (disch := omega) [w64, uk, eku, c3, c3']
              repeat (refine And.intro (by omega) ?_)
              exact ⟨k + 1, by omega, by omega, by simp (disch := omega) [leS, hC, ms]; omega⟩
            · have c3' : lo + gt c.nums k ≤ m := by omega
              simp (disch := omega) [w64, uk, eku, c3, c3']
              repeat (refine And.intro (by omega) ?_)
              exact ⟨k + 1, by omega, by omega, by simp (disch := omega) [leS, hC, stay (by omega)]⟩
          · have c2' : m < hg := by omega
            simp (disch := omega) [c2, c2', w64]
            repeat (refine And.intro (by omega) ?_)
            exact ⟨k + 1, by omega, by omega, by simp (disch := omega) [leS, hC, stay (by omega)]⟩
      · obtain rfl : k = c.vars.length := by omega
        simp
        refine ⟨fun q => ?_, fun q => ?_⟩
        · rw [no (by omega)]
          exact ⟨_, _, ⟨rfl, rfl⟩, rfl, by simp [leM], by simp, .inl rfl⟩
        · exact ⟨t + 1, ⟨by omega, st (by omega)⟩, by omega, by simp (disch := omega) [leS, hC, w64]⟩
    · obtain rfl : t = w.length := by omega
      have : b = true := by
        rw [← hb, shrB, List.all_eq_true]
        intro m hm
        obtain ⟨j, hj, rfl⟩ := mem_gt hm
        exact decide_eq_true (hd j hj)
      subst this
      simp
      exact ⟨_, _, ⟨rfl, rfl⟩, rfl, by simp [leM], by simp, .inl rfl⟩
end Go.Proofs
namespace Go.Proofs
open Go.Sv Go Go.Tb Go.Pl Go.Ut Go.Fn
set_option maxRecDepth 10000 in
set_option maxHeartbeats 2000000 in
theorem nShare_ok {p : Puz} {n : Nat} {c : Con} (hc : ConOK n c) (k5 : c.kind = 5) {L : Lf} (hL : LOK n L) : EffC Tryz.prog 121 [.ptr 0 0 0, conV c] (NT p L) [] (RulQ p c L) := by
  have h8 := hc.vl
  obtain ⟨n5, u5, p5⟩ := hc.k5 k5
  have pm : ∀ (M : Lf) (i : Nat) (v : Int), May c M i v ↔ ShrM c M i v := fun M i v => by
    unfold May; rw [if_neg (by omega), if_neg (by omega), if_neg (by omega), if_neg (by omega)]
  refine eff_enterC Tryz.func121 rfl (by simp) (fun C hC => ?_)
  have hC : C.fx = [0, 1] := hC
  simp only [NT, netV]
  refine CodeJ.seqI (CodeJ.regionI (OpsJ.go ?_))
  simp
  refine CodeJ.frz 3 rfl (by simp) ?_
  simp [frzS, tset]
  refine CodeJ.go ?_
  simp
  refine CodeJ.loop (ι := LI) (fun ⟨i, ag, L'⟩ => ⟨45, [(2, .ptr 2 0 0), (3, .rop (conV c) 0), (5, bov ag), (9, ilv c.vars), (10, iv c.vars.length), (11, iv i)], NT p L' ++ [nC]⟩)
    (fun ⟨i, ag, L'⟩ => i ≤ c.vars.length ∧ Sofar c L L' ag (fun j => j < i) ∧ NE L') (fun ⟨i, ag, L'⟩ => c.vars.length - i) ⟨0, false, L⟩ ?_ ?_ ?_
  · exact ⟨Nat.zero_le _, sofar_0 c L, hL.ne⟩
  · simp [leS, hC, NT, netV, nC]
  rintro ⟨i, ag, L'⟩ ⟨hi, hs, ne⟩
  simp only [NT, netV, nC, List.cons_append, List.nil_append]
  by_cases hlt : i < c.vars.length
  · have hL' := sofar_lok hs hL ne
    obtain ⟨w, ew, hw, lw, w12, w0, wb⟩ := hL'.nat hc hlt
    have vi := lget_iv (l := c.vars) hlt
    have ni := lget_iv (l := c.nums) (i := i) (by omega)
    have ui := lget_iv (l := c.uses) (i := i) (by omega)
    have en : i < c.nums.length := by omega
    have eu : i < c.uses.length := by omega
    rw [ew] at vi
    by_cases z1 : gt c.nums i = 0
    · have sk := hs.skip (fun v => (pm L i v).2 (.inl z1))
      simp (disch := omega) [hlt, vi, ni, en, z1]
      repeat (refine And.intro (by omega) ?_)
      exact ⟨⟨i + 1, ag, L'⟩, ⟨hlt, sk, ne⟩, Nat.sub_succ_lt_self _ _ hlt, by simp (disch := omega) [leS, hC, w64]⟩
    by_cases z2 : gt c.uses i = 0
    · have sk := hs.skip (fun v => (pm L i v).2 (.inr (.inl z2)))
      simp (disch := omega) [hlt, vi, ni, ui, en, eu, z1, z2]
      repeat (refine And.intro (by omega) ?_)
      exact ⟨⟨i + 1, ag, L'⟩, ⟨hlt, sk, ne⟩, Nat.sub_succ_lt_self _ _ hlt, by simp (disch := omega) [leS, hC, w64]⟩
    have sm := hs.may hc hL.len hL.asc ne hlt (fun v => shrB c L' i (momL c L' i v c.vars.length)) fun v _ => by rw [pm]; exact shrM_L z1 z2
    rw [ew, lw, Int.toNat_natCast] at sm
    obtain ⟨L2, b2, e2, eb, l2, hs2, w2, y2, n2⟩ := sofar_two hw ne sm
    have gk := nKeep_ok p L' w hw w12 [nC] 122 [.rop (conV c) 0, .ptr 2 0 0, .rop (iv i) 0] (.inr ⟨rfl, fun σ h0 h1 h2 => by simp [h2]⟩) (fun n hn => by simp at hn; simp; omega) (by simp) (fun v => shrB c L' i (momL c L' i v c.vars.length)) (fun v hv => share1_ok p hc k5 hL' i hlt v (wb v hv))
    rw [e2, eb] at gk
    simp (disch := omega) [hlt, vi, ni, ui, en, eu, z1, z2]
    repeat (refine And.intro (by omega) ?_)
    refine callFz 3 rfl (by simp) ?_
    simp
    refine callT gk [0, 1, 2] (by simp []) (by simp [NT, netV, nC]) (by simp) (by simp [NT, netV, nC]) (by simp []) ?_
    rintro T y ⟨rfl, rfl⟩
    have hw2 : w < L2.length := by omega
    have lv := lget_ilv hw2
    simp [NT, netV, nC]
    refine ⟨fun q => ?_, fun q => ?_⟩
    all_goals
      simp (disch := omega) [hw2, lv]
      repeat (refine And.intro (by omega) ?_)
      refine ⟨fun z => ?_, fun z => ?_⟩
      · rw [y2 (by simpa using z), Bool.true_or] at hs2
        exact ⟨_, _, ⟨L2, true, rfl, rfl, hs2.stop rfl⟩, rfl, by simp [NT, netV, leM], by simp [NT, netV], .inr ⟨by simp, by simp [ltM, NT, netV]⟩⟩
      · exact ⟨⟨i + 1, b2 || ag, L2⟩, ⟨hlt, hs2, n2 (List.length_pos_iff.2 (by simpa using z))⟩, Nat.sub_succ_lt_self _ _ hlt, by simp (disch := omega) [leS, hC, w64, q]⟩
  · obtain rfl : i = c.vars.length := by omega
    simp
    exact ⟨_, _, ⟨L', ag, rfl, rfl, hs.rule fun j hj => hj⟩, rfl, by simp [NT, netV, leM], by simp [NT, netV], .inr ⟨by simp, by simp [ltM, NT, netV]⟩⟩
end Go.Proofs

