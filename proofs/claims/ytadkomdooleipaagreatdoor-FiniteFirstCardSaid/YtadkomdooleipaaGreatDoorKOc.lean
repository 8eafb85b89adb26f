/- What is left of the lists, the program's net: the least and the greatest, what is kept. What is left of the lists, the program's rules: sums. What is left of the lists, the program's rules: tables. What is left of the lists, the program's rules: what is asked of places. What is left of the lists, the program's rules: places. What is left of the lists, the program's rules: shares. What is left of the lists, the program's rules: shares, whole. A text of the prover's own. -/
import Derived.Test.YtadkomdooleipaaGreatDoorKAy
namespace Go.Fn
open Go Go.Sv Go.Pl Go.Proofs Go.Tb Go.Ut
def netV (p : Puz) (n : Nat) : SV := .agg [.ro (p.values.map ilv), .ro (p.cons.map conV), .view 1 0 n]
/-- the net and what is left -/
def NT (p : Puz) (L : Lf) : Tab := [some ⟨3, [netV p L.length], false⟩, some ⟨1, L.map ilv, false⟩]
/-- a variable that holds the net's address -/
def nC : Option Ent := some ⟨1, [.ptr 0 0 0], false⟩
theorem eff_of_pure {P : Program} {f : FuncId} {args : List SV} {y : SV} (h : PureF P f args y) (hp : SV.pureL args = true) (T : Tab) : EffC P f args T [] (fun T' y' => T' = T ∧ y' = y) := fun C hC => callS h hp ⟨rfl, T, y, ⟨rfl, rfl⟩, rfl, leM_self _, Nat.le_refl _, .inl rfl⟩
end Go.Fn
namespace Go.Sv
open Go
@[simp] theorem ev_func (fr : List (Nat × SV)) (f : FuncId) : ev fr (.func f) = some (.val (.func (.func f) #[] #[])) := rfl
/-- a plain function as a value that may be called -/
def fnX : SV → SV
  | .val (.func (.func f) ⟨[]⟩ ⟨[]⟩) => .fnv f [] []
  | x => x
@[simp] theorem fnX_fn {f : FuncId} : fnX (.val (.func (.func f) #[] #[])) = .fnv f [] [] := rfl
theorem fnX_den {β : Bnd} {H : Hp} {x : SV} {v : Value} (h : Den β H x v) : Den β H (fnX x) v := by
  unfold fnX
  split
  · simp only [Den] at h ⊢
    exact ⟨[], [], h.1, by simp only [DenT], by simp only [DenT]⟩
  · exact h
theorem fnX_denT {β : Bnd} {H : Hp} : ∀ {l : List SV} {vs : List Value}, DenT β H l vs → DenT β H (l.map fnX) vs
  | [], vs, h => h
  | x :: l, vs, h => by
    simp only [DenT, List.map_cons] at h ⊢
    obtain ⟨v, r, rfl, h1, h2⟩ := h
    exact ⟨v, r, rfl, fnX_den h1, fnX_denT h2⟩
theorem callFn {P : Program} {C : Ctx} {f : FuncId} {args : List SV} {M : Tab} {W : Option (List Nat)} {K : Tab → List Nat → SV → Prop} (h : CallJ P C f (args.map fnX) M W K) : CallJ P C f args M W K :=
  fun β H w vals hd hW => h β H w vals (fnX_denT hd) hW
@[simp] theorem fnX_view {k i n : Nat} : fnX (.view k i n) = .view k i n := rfl
end Go.Sv
namespace Go.Proofs
open Go.Sv Go Go.Tb Go.Pl Go.Ut Go.Fn
set_option maxRecDepth 10000 in
theorem nLow_ok (p : Puz) (L : Lf) (k : Nat) (hk : k < L.length) (hl : 0 < (gt L k).length) : EffC Tryz.prog 104 [.ptr 0 0 0, iv k] (NT p L) [] (fun T y => T = NT p L ∧ y = iv (low (gt L k))) := by
  have lv := lget_ilv hk
  have ll := lget_iv (l := gt L k) (i := 0) hl
  have e : gt (gt L k) 0 = low (gt L k) := rfl
  rw [e] at ll
  refine eff_enterC Tryz.func104 rfl (by simp) (fun C hC => ?_)
  refine CodeJ.go ?_
  simp only [NT, netV]
  simp (disch := omega) [hk, lv, ll, hl]
  repeat (refine And.intro (by omega) ?_)
  exact ⟨_, _, ⟨rfl, rfl⟩, rfl, by simp [leM], by simp, .inl rfl⟩
set_option maxRecDepth 10000 in
theorem nHigh_ok (p : Puz) (L : Lf) (k : Nat) (hk : k < L.length) (hl : 0 < (gt L k).length) (h12 : (gt L k).length ≤ 12) : EffC Tryz.prog 105 [.ptr 0 0 0, iv k] (NT p L) [] (fun T y => T = NT p L ∧ y = iv (high (gt L k))) := by
  have lv := lget_ilv hk
  have ll := lget_iv (l := gt L k) (i := (gt L k).length - 1) (by omega)
  have e : gt (gt L k) ((gt L k).length - 1) = high (gt L k) := rfl
  rw [e] at ll
  have e8 : (((gt L k).length : Int) - 1).toNat = (gt L k).length - 1 := by omega
  refine eff_enterC Tryz.func105 rfl (by simp) (fun C hC => ?_)
  refine CodeJ.go ?_
  simp only [NT, netV]
  simp (disch := omega) []
  repeat (refine And.intro (by omega) ?_)
  refine CodeJ.draw (.qs [0, 1, 2, 3, 4, 5, 6, 7, 8, 9, 10, 11, 12, 13, 14, 15, 16, 17, 18] <| .nil) (by kernel_rfl) (by kernel_rfl) (by simp) ?_
  simp (disch := omega) [hk, lv, ll, hl, e8, w64]
  repeat (refine And.intro (by omega) ?_)
  exact ⟨_, _, ⟨rfl, rfl⟩, rfl, by simp [leM], by simp, .inl rfl⟩
theorem empty1_ok (l : List Int) : PureF Tryz.prog 44 [ilv l] (bov (decide (l.length = 0))) := by
  refine pure_enter Tryz.func44 rfl (by simp) (fun C hC => ?_)
  simp
set_option maxRecDepth 10000 in
theorem nEmpty_ok (p : Puz) (L : Lf) (hl : L.length ≤ 1000) : EffC Tryz.prog 31 [.ptr 0 0 0] (NT p L) [] (fun T y => T = NT p L ∧ TB (¬ NE L) y) := by
  refine eff_enterC Tryz.func31 rfl (by simp) (fun C hC => ?_)
  refine CodeJ.go ?_
  simp only [NT, netV]
  simp
  refine callFn ?_
  simp
  obtain ⟨b, hb⟩ : ∃ b, (L.any fun l => decide (l.length = 0)) = b := ⟨_, rfl⟩
  have g := slAny_ok L (by omega) 44 [] rfl (by simp) (fun l => decide (l.length = 0)) (fun r _ => empty1_ok r)
  rw [hb] at g
  have hb' : b = true ↔ ¬ NE L := by
    rw [← hb, List.any_eq_true]
    constructor
    · rintro ⟨l, h1, h2⟩ h
      obtain ⟨j, hj, rfl⟩ := List.getElem_of_mem h1
      rw [gt_get hj] at h2
      exact h j hj (List.eq_nil_of_length_eq_zero (by simpa using h2))
    · intro h
      rcases Classical.em (∃ l ∈ L, decide (l.length = 0) = true) with q | q
      · exact q
      · exact absurd (fun k hk e => q ⟨_, gt_mem hk, by rw [e]; rfl⟩) h
  refine callQ g (by simp) (fun x hx => ⟨by rw [hx]; rfl, ?_⟩)
  subst hx
  simp
  exact ⟨_, _, ⟨rfl, b, rfl, hb'⟩, rfl, by simp [leM], by simp, .inl rfl⟩
set_option maxRecDepth 10000 in
set_option maxHeartbeats 1000000 in
theorem nKeep_ok (p : Puz) (L : Lf) (k : Nat) (hk : k < L.length) (h12 : (gt L k).length ≤ 12) (E : Tab) (F : FuncId) (caps : List SV) (hE : (E = [] ∧ ∀ σ, renL σ caps = caps) ∨ (E = [nC] ∧ ∀ σ, σ 0 = 0 → σ 1 = 1 → σ 2 = 2 → renL σ caps = caps)) (hl : ∀ n, 2 + E.length ≤ n → SV.ltL n caps = true) (hF : callOK Tryz.prog F) (f : Int → Bool)
    (hg : ∀ v ∈ gt L k, EffC Tryz.prog F (iv v :: caps) (NT p L ++ E) [] (fun T y => T = NT p L ++ E ∧ y = bov (f v))) :
    EffC Tryz.prog 106 [.ptr 0 0 0, iv k, .fnv F [] caps] (NT p L ++ E) [] (fun T y => T = NT p (L.set k ((gt L k).filter f)) ++ E ∧ y = bov (decide (((gt L k).filter f).length < (gt L k).length))) := by
  have lv := lget_ilv hk
  have hu : ∀ n, 2 + E.length ≤ n → SV.usesL n caps = false := fun n h => SV.ltL_uses (Nat.le_refl n) _ (hl n h)
  refine eff_enterC Tryz.func106 rfl (by simp) (fun C hC => ?_)
  generalize hlk : gt L k = l at *
  obtain ⟨L2, e2⟩ : ∃ L2, L.set k (l.filter f) = L2 := ⟨_, rfl⟩
  have l2 : L2.length = L.length := by rw [← e2]; simp
  obtain ⟨b2, eb⟩ : ∃ b, decide ((l.filter f).length < l.length) = b := ⟨_, rfl⟩
  rw [e2, eb]
  rcases hE with ⟨rfl, hren⟩ | ⟨rfl, hren⟩
  · have hC : C.fx = [0, 1] := hC
    have hu := hu 2 (by simp)
    have hlt2 := hl 3 (by simp)
    simp only [NT, netV, List.append_nil]
    refine CodeJ.cutAt 2 (fun st => st = ⟨50, [(0, .ptr 0 0 0), (1, iv k), (2, .fnv F [] caps), (7, .val (.slice none 0 0))], [some ⟨3, [.agg [.ro (p.values.map ilv), .ro (p.cons.map conV), .view 1 0 L.length]], false⟩, some ⟨1, L.map ilv, false⟩]⟩) ?_ ?_
    · simp only [takeC_succ, takeC_zero]
      simp
      exact ⟨rfl, by simp [leF, Go.Sv.get], leM_self _, .inl rfl⟩
    rintro st rfl
    simp only [dropC_succ, dropC_zero]
    refine CodeJ.nil 7 1 rfl ?_
    simp
    refine CodeJ.cutAt 1 (fun st => st = ⟨50, [(0, .ptr 0 0 0), (1, iv k), (7, .view 2 0 (l.filter f).length)], [some ⟨3, [.agg [.ro (p.values.map ilv), .ro (p.cons.map conV), .view 1 0 L.length]], false⟩, some ⟨1, L.map ilv, false⟩, some ⟨1, (l.filter f).map iv, false⟩]⟩) ?_ ?_
    · simp only [takeC_succ, takeC_zero]
      simp (disch := omega) [hk, lv]
      repeat (refine And.intro (by omega) ?_)
      refine CodeJ.loop (ι := Nat × List Int) (fun ⟨i, w⟩ => ⟨50, [(0, .ptr 0 0 0), (1, iv k), (2, .fnv F [] caps), (7, .view 2 0 w.length), (17, ilv l), (18, iv l.length), (19, iv i)], [some ⟨3, [.agg [.ro (p.values.map ilv), .ro (p.cons.map conV), .view 1 0 L.length]], false⟩, some ⟨1, L.map ilv, false⟩, some ⟨1, w.map iv, false⟩]⟩)
        (fun ⟨i, w⟩ => i ≤ l.length ∧ w = (l.take i).filter f) (fun ⟨i, w⟩ => l.length - i) (0, []) ?_ ?_ ?_
      · simp
      · simp [leS, hC]
      rintro ⟨i, w⟩ ⟨hi, hw⟩
      have wl : w.length ≤ 12 := by
        have := List.length_filter_le f (l.take i)
        rw [← hw] at this
        simp at this; omega
      by_cases hlt : i < l.length
      · have lu := lget_iv hlt
        have ft : (l.take (i + 1)).filter f = if f (gt l i) = true then w ++ [gt l i] else w := by
          rw [take_gt hlt, List.filter_append, ← hw]
          by_cases e : f (gt l i) = true <;> simp [e]
        have gg := hg _ (gt_mem hlt)
        generalize gt l i = u at *
        simp (disch := omega) [hlt, lu, hF]
        repeat (refine And.intro (by omega) ?_)
        refine callT gg [0, 1] (by simp [NT, netV]) (by simp [NT, netV]) (by simp [hren]) (by simp [NT, netV]) (by simp [NT, netV]) ?_
        rintro T y ⟨rfl, rfl⟩
        simp [NT, netV]
        refine ⟨fun q => ?_, fun q => ?_⟩
        · rw [if_pos q] at ft
          simp (disch := omega) [hu]
          repeat (refine And.intro (by omega) ?_)
          exact ⟨⟨by simp [hC], by omega⟩, i + 1, w ++ [u], ⟨by omega, ft.symm⟩, by omega, by simp (disch := omega) [leS, hC, w64, hlt2]⟩
        · rw [if_neg (by simp [q])] at ft
          exact ⟨i + 1, w, ⟨by omega, ft.symm⟩, by omega, by simp (disch := omega) [leS, hC, w64]⟩
      · obtain rfl : i = l.length := by omega
        rw [List.take_length] at hw
        subst hw
        simp
        exact ⟨rfl, by simp [leF, Go.Sv.get], leM_self _, .inl rfl⟩
    rintro st rfl
    simp only [dropC_succ, dropC_zero]
    generalize l.filter f = w at *
    refine CodeJ.frz 2 rfl (by simp) ?_
    simp [frzS, tset]
    refine CodeJ.go ?_
    simp (disch := omega) [hk, lv, lset_ilv, e2, l2, -List.map_set]
    repeat (refine And.intro (by omega) ?_)
    exact ⟨_, _, ⟨rfl, rfl⟩, by rw [← eb], by simp [leM], by simp, .inr ⟨by simp, by simp [ltM]⟩⟩
  · have hC : C.fx = [0, 1, 2] := hC
    have hu := hu 3 (by simp)
    have hlt2 := hl 4 (by simp)
    simp only [NT, netV, List.cons_append, List.nil_append, nC]
    refine CodeJ.cutAt 2 (fun st => st = ⟨50, [(0, .ptr 0 0 0), (1, iv k), (2, .fnv F [] caps), (7, .val (.slice none 0 0))], [some ⟨3, [.agg [.ro (p.values.map ilv), .ro (p.cons.map conV), .view 1 0 L.length]], false⟩, some ⟨1, L.map ilv, false⟩, some ⟨1, [.ptr 0 0 0], false⟩]⟩) ?_ ?_
    · simp only [takeC_succ, takeC_zero]
      simp
      exact ⟨rfl, by simp [leF, Go.Sv.get], leM_self _, .inl rfl⟩
    rintro st rfl
    simp only [dropC_succ, dropC_zero]
    refine CodeJ.nil 7 1 rfl ?_
    simp
    refine CodeJ.cutAt 1 (fun st => st = ⟨50, [(0, .ptr 0 0 0), (1, iv k), (7, .view 3 0 (l.filter f).length)], [some ⟨3, [.agg [.ro (p.values.map ilv), .ro (p.cons.map conV), .view 1 0 L.length]], false⟩, some ⟨1, L.map ilv, false⟩, some ⟨1, [.ptr 0 0 0], false⟩, some ⟨1, (l.filter f).map iv, false⟩]⟩) ?_ ?_
    · simp only [takeC_succ, takeC_zero]
      simp (disch := omega) [hk, lv]
      repeat (refine And.intro (by omega) ?_)
      refine CodeJ.loop (ι := Nat × List Int) (fun ⟨i, w⟩ => ⟨50, [(0, .ptr 0 0 0), (1, iv k), (2, .fnv F [] caps), (7, .view 3 0 w.length), (17, ilv l), (18, iv l.length), (19, iv i)], [some ⟨3, [.agg [.ro (p.values.map ilv), .ro (p.cons.map conV), .view 1 0 L.length]], false⟩, some ⟨1, L.map ilv, false⟩, some ⟨1, [.ptr 0 0 0], false⟩, some ⟨1, w.map iv, false⟩]⟩)
        (fun ⟨i, w⟩ => i ≤ l.length ∧ w = (l.take i).filter f) (fun ⟨i, w⟩ => l.length - i) (0, []) ?_ ?_ ?_
      · simp
      · simp [leS, hC]
      rintro ⟨i, w⟩ ⟨hi, hw⟩
      have wl : w.length ≤ 12 := by
        have := List.length_filter_le f (l.take i)
        rw [← hw] at this
        simp at this; omega
      by_cases hlt : i < l.length
      · have lu := lget_iv hlt
        have ft : (l.take (i + 1)).filter f = if f (gt l i) = true then w ++ [gt l i] else w := by
          rw [take_gt hlt, List.filter_append, ← hw]
          by_cases e : f (gt l i) = true <;> simp [e]
        have gg := hg _ (gt_mem hlt)
        generalize gt l i = u at *
        simp (disch := omega) [hlt, lu, hF]
        repeat (refine And.intro (by omega) ?_)
        refine callT gg [0, 1, 2] (by simp [NT, netV, nC]) (by simp [NT, netV, nC]) (by simp [hren (sg [0, 1, 2] 4) rfl rfl rfl]) (by simp [NT, netV, nC]) (by simp [NT, netV, nC]) ?_
        rintro T y ⟨rfl, rfl⟩
        simp [NT, netV, nC]
        refine ⟨fun q => ?_, fun q => ?_⟩
        · rw [if_pos q] at ft
          simp (disch := omega) [hu]
          repeat (refine And.intro (by omega) ?_)
          exact ⟨⟨by simp [hC], by omega⟩, i + 1, w ++ [u], ⟨by omega, ft.symm⟩, by omega, by simp (disch := omega) [leS, hC, w64, hlt2]⟩
        · rw [if_neg (by simp [q])] at ft
          exact ⟨i + 1, w, ⟨by omega, ft.symm⟩, by omega, by simp (disch := omega) [leS, hC, w64]⟩
      · obtain rfl : i = l.length := by omega
        rw [List.take_length] at hw
        subst hw
        simp
        exact ⟨rfl, by simp [leF, Go.Sv.get], leM_self _, .inl rfl⟩
    rintro st rfl
    simp only [dropC_succ, dropC_zero]
    generalize l.filter f = w at *
    refine CodeJ.frz 3 rfl (by simp) ?_
    simp [frzS, tset]
    refine CodeJ.go ?_
    simp (disch := omega) [hk, lv, lset_ilv, e2, l2, -List.map_set]
    repeat (refine And.intro (by omega) ?_)
    exact ⟨_, _, ⟨rfl, rfl⟩, by rw [← eb], by simp [leM], by simp, .inr ⟨by simp, by simp [ltM]⟩⟩
end Go.Proofs
namespace Go.Fn
open Go Go.Sv Go.Pl Go.Proofs Go.Tb Go.Ut
/-- what a rule of the program does -/
def RulQ (p : Puz) (c : Con) (L : Lf) (T : Tab) (y : SV) : Prop := ∃ (L' : Lf) (b : Bool), T = NT p L' ∧ y = bov b ∧ Rule c L L' b
section
variable {n : Nat} {c : Con} {L L' : Lf} {ag : Bool} {D : Nat → Prop}
theorem sofar_lok (h : Sofar c L L' ag D) (hL : LOK n L) (ne : NE L') : LOK n L' where
  len := h.len.trans hL.len
  n6 := hL.n6
  ne := ne
  asc := h.asc hL.asc
  l12 := fun k hk => Nat.le_trans (h.cut.sub k (by rw [hL.len]; exact hk)).length_le (hL.l12 k hk)
  bd := fun k hk v hv => hL.bd k hk v ((h.cut.sub k (by rw [hL.len]; exact hk)).subset hv)
theorem ne_set {k : Nat} {l : List Int} (h : NE L) (hl : 0 < l.length) : NE (L.set k l) := fun j hj e => by
  have hj' : j < L.length := by simpa using hj
  rw [gt_setL hj'] at e
  split at e
  · rw [e] at hl; simp at hl
  · exact h j hj' e
theorem LOK.nat (h : LOK n L) (hc : ConOK n c) {i : Nat} (hi : i < c.vars.length) : ∃ k : Nat, gt c.vars i = (k : Int) ∧ k < L.length ∧ lk c L i = gt L k ∧ (gt L k).length ≤ 12 ∧ 0 < (gt L k).length ∧ ∀ v ∈ gt L k, Bd8 v := by
  obtain ⟨d1, d2, d3, d4, d5, d6⟩ := h.at hc hi
  exact ⟨(gt c.vars i).toNat, by omega, d4, rfl, d2, d3, d6⟩
/-- a rule's step at a place: what is kept, and whether it is over -/
theorem sofar_two {k i : Nat} {f : Int → Bool} (hk : k < L'.length) (ne : NE L') (hs : Sofar c L (L'.set k ((gt L' k).filter f)) (decide (((gt L' k).filter f).length < (gt L' k).length) || ag) (fun j => j < i + 1)) :
    ∃ (L2 : Lf) (b2 : Bool), L'.set k ((gt L' k).filter f) = L2 ∧ decide (((gt L' k).filter f).length < (gt L' k).length) = b2 ∧ L2.length = L'.length ∧ Sofar c L L2 (b2 || ag) (fun j => j < i + 1) ∧ (gt L2 k).length ≤ (gt L' k).length ∧ ((gt L2 k).length = 0 → b2 = true) ∧ (0 < (gt L2 k).length → NE L2) := by
  refine ⟨_, _, rfl, rfl, by simp, hs, ?_⟩
  rw [gt_setL hk, if_pos rfl]
  refine ⟨List.length_filter_le _ _, fun h => ?_, fun h => ne_set ne h⟩
  have := List.length_pos_iff.2 (ne k hk)
  exact decide_eq_true (by omega)
end
structure LW1 where
  k : Nat
  w : List Int
structure LI where
  i : Nat
  ag : Bool
  L : Lf
def sumB (a lim lo hi v : Int) : Bool := decide (lim - hi ≤ a * v) && decide (a * v ≤ lim - lo)
end Go.Fn
namespace Go.Proofs
open Go.Sv Go Go.Tb Go.Pl Go.Ut Go.Fn
set_option maxRecDepth 10000 in
theorem sum1_ok (c : Con) (i : Nat) (hi : i < c.nums.length) (lo hi' v : Int) (ha : Bd8 (gt c.nums i)) (hv : Bd8 v) (hl : -100000000 ≤ c.limit ∧ c.limit ≤ 100000000) (h1 : -100000000000000000 ≤ lo ∧ lo ≤ 100000000000000000) (h2 : -100000000000000000 ≤ hi' ∧ hi' ≤ 100000000000000000) :
    PureF Tryz.prog 107 [iv v, .rop (conV c) 0, .rop (iv i) 0, .rop (iv hi') 0, .rop (iv lo) 0] (bov (sumB (gt c.nums i) c.limit lo hi' v)) := by
  have ni := lget_iv (l := c.nums) hi
  have bm := mul_bd ha hv
  refine pure_enter Tryz.func107 rfl (by simp) (fun C hC => ?_)
  simp
  refine CodeJ.draw (.qs [0, 1, 2, 3, 4, 5, 6, 7, 8, 9, 10, 11, 12, 13, 14, 15, 16, 17, 18, 19, 20, 21, 22, 23, 24, 25, 26] <| .nil) (by kernel_rfl) (by kernel_rfl) (by simp) ?_
  generalize hx : gt c.nums i * v = x at *
  simp only [sumB, hx]
  by_cases q : c.limit - hi' ≤ x
  · simp (disch := omega) [hi, ni, hx, w64, q]
    repeat (refine And.intro (by omega) ?_)
  · simp (disch := omega) [hi, ni, hx, w64, q]
    repeat (refine And.intro (by omega) ?_)
set_option maxRecDepth 10000 in
set_option maxHeartbeats 2000000 in
theorem nSum_ok {p : Puz} {n : Nat} {c : Con} (hc : ConOK n c) (k2 : c.kind = 2) {L : Lf} (hL : LOK n L) : EffC Tryz.prog 103 [.ptr 0 0 0, conV c] (NT p L) [] (RulQ p c L) := by
  have h8 := hc.vl
  have n2 := hc.k2 k2
  have bl := hc.li
  refine eff_enterC Tryz.func103 rfl (by simp) (fun C hC => ?_)
  have hC : C.fx = [0, 1] := hC
  simp only [NT, netV]
  refine CodeJ.seqI (CodeJ.regionI (OpsJ.go ?_))
  simp
  refine CodeJ.frz 2 rfl (by simp) ?_
  simp [frzS, tset]
  refine CodeJ.go ?_
  simp
  refine CodeJ.loop (ι := LI) (fun ⟨i, ag, L'⟩ => ⟨77, [(0, .ptr 0 0 0), (3, .rop (conV c) 0), (5, bov ag), (15, ilv c.vars), (16, iv c.vars.length), (17, iv i)], NT p L'⟩)
    (fun ⟨i, ag, L'⟩ => i ≤ c.vars.length ∧ Sofar c L L' ag (fun j => j < i) ∧ NE L') (fun ⟨i, ag, L'⟩ => c.vars.length - i) ⟨0, false, L⟩ ?_ ?_ ?_
  · exact ⟨by omega, sofar_0 c L, hL.ne⟩
  · simp [leS, hC, NT, netV]
  rintro ⟨i, ag, L'⟩ ⟨hi, hs, ne⟩
  by_cases hlt : i < c.vars.length
  · have hL' := sofar_lok hs hL ne
    have vi := lget_iv (l := c.vars) hlt
    have bd : ∀ k, k < c.vars.length → Bd8 (gt c.nums k) ∧ Bd8 (low (lk c L' k)) ∧ Bd8 (high (lk c L' k)) := fun k hk => by
      obtain ⟨d1, d2, d3, d4, d5, d6⟩ := hL'.at hc hk
      exact ⟨hc.nu k (by omega), low_bd d6 d3⟩
    simp only [NT, netV]
    simp (disch := omega) [hlt, vi]
    repeat (refine And.intro (by omega) ?_)
    refine CodeJ.frz 2 rfl (by simp) ?_
    simp [frzS, tset]
    refine CodeJ.loopC (ι := Nat) (fun k => ⟨77, [(0, .ptr 0 0 0), (3, .rop (conV c) 0), (5, bov ag), (6, .rop (iv i) 0), (7, iv (gt c.vars i)), (8, .ptr 3 0 0), (9, .ptr 4 0 0), (15, ilv c.vars), (16, iv c.vars.length), (17, iv i), (23, ilv c.vars), (24, iv c.vars.length), (25, iv k)], NT p L' ++ [none, some ⟨1, [iv (lowS c L' i k)], false⟩, some ⟨1, [iv (highS c L' i k)], false⟩]⟩)
      (fun k => k ≤ c.vars.length) (fun k => c.vars.length - k) 0 (by omega) ?_ ?_
    · simp [leS, hC, lowS, highS, sumN, NT, netV]
    rintro k hk
    simp only [NT, netV, List.cons_append, List.nil_append]
    by_cases hkl : k < c.vars.length
    · refine CodeJ.go ?_
      obtain ⟨w, ew, hw, lw, w12, w0, wb⟩ := hL'.nat hc hkl
      have vk := lget_iv (l := c.vars) hkl
      have nk := lget_iv (l := c.nums) (i := k) (by omega)
      have ekn : k < c.nums.length := by omega
      have e1 : lowS c L' i (k + 1) = lowS c L' i k + if k = i then 0 else min (gt c.nums k * low (lk c L' k)) (gt c.nums k * high (lk c L' k)) := rfl
      have e2 : highS c L' i (k + 1) = highS c L' i k + if k = i then 0 else max (gt c.nums k * low (lk c L' k)) (gt c.nums k * high (lk c L' k)) := rfl
      have bS := lowS_bd (i := i) bd k (by omega)
      have bm := minmax_bd (bd k hkl).1 (bd k hkl).2.1 (bd k hkl).2.2
      have gl := nLow_ok p L' w hw w0
      have gh := nHigh_ok p L' w hw w0 w12
      rw [lw] at e1 e2 bm
      rw [ew] at vk
      generalize high (gt L' w) = hg at *
      generalize low (gt L' w) = lo at *
      generalize gt c.nums k = a at *
      by_cases c1 : k = i
      · subst c1
        rw [if_pos rfl] at e1 e2
        simp (disch := omega) [hkl, vk, w64]
        repeat (refine And.intro (by omega) ?_)
        exact ⟨k + 1, by omega, by omega, Le.syn (by simp (disch := omega) [leS, hC, w64, e1, e2, NT, netV])⟩
      · have c1' : ¬ (k : Int) = i := by omega
        rw [if_neg c1] at e1 e2
        generalize hx : a * lo = x at *
        generalize hy : a * hg = y at *
        simp (disch := omega) [hkl, c1, c1', vk]
        repeat (refine And.intro (by omega) ?_)
        refine CodeJ.draw (.qs [0] <| .q 1 [0, 1] <| .qs [2, 3] <| .q 4 [0, 1] <| .qs [5, 6, 9] <| .q 10 [0, 1] <| .qs [11, 12] <| .q 13 [0, 1] <| .qs [14, 15] <| .l 7 [0, 1] <| .qs [8] <| .l 16 [0, 1] <| .qs [17, 18, 19] <| .nil) (by kernel_rfl) (by kernel_rfl) (by simp) ?_
        simp (disch := omega) [hkl, nk, ekn]
        repeat (refine And.intro (by omega) ?_)
        refine callT gl [0, 1] (by simp [NT, netV]) (by simp [NT, netV]) (by simp) (by simp [NT, netV]) (by simp [NT, netV]) ?_
        rintro T y ⟨rfl, rfl⟩
        simp [NT, netV]
        simp (disch := omega) [hx, w64]
        repeat (refine And.intro (by omega) ?_)
        refine callT gh [0, 1] (by simp [NT, netV]) (by simp [NT, netV]) (by simp) (by simp [NT, netV]) (by simp [NT, netV]) ?_
        rintro T y ⟨rfl, rfl⟩
        simp [NT, netV]
        simp (disch := omega) [hy, w64]
        repeat (refine And.intro (by omega) ?_)
        refine CodeJ.draw (.qs [0, 1, 2, 3, 4] <| .q 5 [3] <| .qs [6, 7, 8, 9] <| .l 10 [3] <| .l 11 [4] <| .nil) (by kernel_rfl) (by kernel_rfl) (by simp) ?_
        simp (disch := omega) [w64]
        repeat (refine And.intro (by omega) ?_)
        refine ⟨k + 1, by omega, by omega, Le.syn ?_⟩
        simp (disch := omega) [leS, hC, w64, e1, e2, NT, netV]
    · obtain rfl : k = c.vars.length := by omega
      refine CodeJ.frz 3 rfl (by simp) ?_
      simp [frzS, tset]
      refine CodeJ.frz 4 rfl (by simp) ?_
      simp [frzS, tset]
      refine CodeJ.go ?_
      obtain ⟨w, ew, hw, lw, w12, w0, wb⟩ := hL'.nat hc hlt
      have bS := lowS_bd (i := i) bd c.vars.length (by omega)
      have pm : ∀ v, May c L' i v ↔ lowS c L' i c.vars.length ≤ c.limit - gt c.nums i * v ∧ c.limit - gt c.nums i * v ≤ highS c L' i c.vars.length := fun v => by unfold May; rw [if_neg (by omega), if_pos k2]
      rw [ew]
      generalize lowS c L' i c.vars.length = lo at *
      generalize highS c L' i c.vars.length = hg at *
      have sm := hs.may hc hL.len hL.asc ne hlt (sumB (gt c.nums i) c.limit lo hg) fun v _ => by
        rw [pm]; simp only [sumB, Bool.and_eq_true, decide_eq_true_eq]; omega
      rw [ew, lw, Int.toNat_natCast] at sm
      obtain ⟨L2, b2, e2, eb, l2, hs2, w2, z2, n2⟩ := sofar_two hw ne sm
      have gk := nKeep_ok p L' w hw w12 [] 107 [.rop (conV c) 0, .rop (iv i) 0, .rop (iv hg) 0, .rop (iv lo) 0] (.inl ⟨rfl, fun σ => by simp⟩) (fun n _ => by simp) (by simp) (sumB (gt c.nums i) c.limit lo hg) (fun v hv => eff_of_pure (sum1_ok c i (by omega) lo hg v (hc.nu i (by omega)) (wb v hv) bl (by omega) (by omega)) (by simp) _)
      rw [e2, eb, List.append_nil, List.append_nil] at gk
      simp
      refine callT gk [0, 1] (by simp [NT, netV]) (by simp [NT, netV]) (by simp) (by simp [NT, netV]) (by simp [NT, netV]) ?_
      rintro T y ⟨rfl, rfl⟩
      have hw2 : w < L2.length := by omega
      have lv := lget_ilv hw2
      simp [NT, netV]
      refine ⟨fun q => ?_, fun q => ?_⟩
      all_goals
        simp (disch := omega) [hw2, lv]
        repeat (refine And.intro (by omega) ?_)
        refine ⟨fun z => ?_, fun z => ?_⟩
        · rw [z2 (by simpa using z), Bool.true_or] at hs2
          exact ⟨_, _, ⟨L2, true, rfl, rfl, hs2.stop rfl⟩, rfl, by simp [NT, netV, leM], by simp [NT, netV], .inr ⟨by simp, by simp [ltM, NT, netV]⟩⟩
        · exact ⟨⟨i + 1, b2 || ag, L2⟩, ⟨hlt, hs2, n2 (List.length_pos_iff.2 (by simpa using z))⟩, Nat.sub_succ_lt_self _ _ hlt, by simp (disch := omega) [leS, hC, w64, NT, netV, q]⟩
  · obtain rfl : i = c.vars.length := by omega
    simp only [NT, netV]
    simp
    exact ⟨_, _, ⟨L', ag, rfl, rfl, hs.rule fun j hj => hj⟩, rfl, by simp [NT, netV, leM], by simp [NT, netV], .inl rfl⟩
end Go.Proofs
namespace Go.Fn
open Go Go.Sv Go.Pl Go.Proofs Go.Tb Go.Ut
def LvT (c : Con) (r : List Int) (k t : Nat) : Prop := ∀ t', t' < t → gt c.vars t' ≠ gt c.vars k ∨ gt r t' = gt r k
def LvP (c : Con) (L : Lf) (r : List Int) (k : Nat) : Prop := ∀ k', k' < k → gt r k' ∈ lk c L k' ∧ LvT c r k' c.vars.length
theorem lvP_succ {c : Con} {L : Lf} {r : List Int} {k : Nat} : LvP c L r (k + 1) ↔ (LvP c L r k ∧ gt r k ∈ lk c L k) ∧ LvT c r k c.vars.length := by
  constructor
  · exact fun h => ⟨⟨fun k' hk => h k' (by omega), (h k (by omega)).1⟩, (h k (by omega)).2⟩
  · rintro ⟨⟨h2, h3⟩, h4⟩ k' hk
    by_cases e : k' = k
    · subst e; exact ⟨h3, h4⟩
    · exact h2 k' (by omega)
theorem lvT_succ {c : Con} {r : List Int} {k t : Nat} : LvT c r k (t + 1) ↔ LvT c r k t ∧ (gt c.vars t ≠ gt c.vars k ∨ gt r t = gt r k) := by
  constructor
  · exact fun h => ⟨fun t' ht => h t' (by omega), h t (by omega)⟩
  · rintro ⟨h1, h2⟩ t' ht
    by_cases e : t' = t
    · subst e; exact h2
    · exact h1 t' (by omega)
theorem liveB_iff {c : Con} {L : Lf} {r : List Int} : liveB c L r = true ↔ LvP c L r c.vars.length := by
  simp only [liveB, List.all_eq_true, List.mem_range, Bool.and_eq_true, decide_eq_true_eq, LvP, LvT]
structure LW where
  q : Nat
  w : List (List Int)
structure LB where
  k : Nat
  b : Bool
def rowB (i : Nat) (v : Int) (r : List Int) : Bool := decide (gt r i = v)
end Go.Fn
namespace Go.Proofs
open Go.Sv Go Go.Tb Go.Pl Go.Ut Go.Fn
set_option maxRecDepth 10000 in
theorem table11_ok (r : List Int) (i : Nat) (hi : i < r.length) (v : Int) : PureF Tryz.prog 111 [ilv r, .rop (iv i) 0, .rop (iv v) 0] (bov (rowB i v r)) := by
  have lr := lget_iv hi
  refine pure_enter Tryz.func111 rfl (by simp) (fun C hC => ?_)
  simp
  refine CodeJ.draw (.qs [0, 1, 2, 3, 4, 5, 6] <| .nil) (by kernel_rfl) (by kernel_rfl) (by simp) ?_
  simp (disch := omega) [hi, lr, rowB]
  repeat (refine And.intro (by omega) ?_)
set_option maxRecDepth 10000 in
theorem table1_ok (w : List (List Int)) (hw : w.length ≤ 1000000) (i : Nat) (hi : ∀ r ∈ w, i < r.length) (v : Int) : PureF Tryz.prog 110 [iv v, .rop (.ro (w.map ilv)) 0, .rop (iv i) 0] (bov (w.any (rowB i v))) := by
  have g := slAny_ok w hw 111 [.rop (iv i) 0, .rop (iv v) 0] (by simp) (by simp) (rowB i v) (fun r hr => table11_ok r i (hi r hr) v)
  generalize w.any (rowB i v) = b at *
  refine pure_enter Tryz.func110 rfl (by simp) (fun C hC => ?_)
  simp
  refine callFz 0 rfl (by simp) ?_
  simp
  refine callS (g) (by simp) ?_
  simp
set_option maxRecDepth 10000 in
set_option maxHeartbeats 2000000 in
theorem nTable_ok {p : Puz} {n : Nat} {c : Con} (hc : ConOK n c) (hf : FewC c) (k3 : c.kind = 3) {L : Lf} (hL : LOK n L) : EffC Tryz.prog 109 [.ptr 0 0 0, conV c] (NT p L) [] (RulQ p c L) := by
  have h8 := hc.vl
  have hr := hf.r
  refine eff_enterC Tryz.func109 rfl (by simp) (fun C hC => ?_)
  have hC : C.fx = [0, 1] := hC
  simp only [NT, netV]
  refine CodeJ.seqI (CodeJ.regionI (OpsJ.go ?_))
  simp
  refine CodeJ.frz 2 rfl (by simp) ?_
  simp [frzS, tset]
  refine CodeJ.seqI (CodeJ.regionI (OpsJ.go ?_))
  simp
  refine CodeJ.le (Le.nilCell1 3 1 rfl rfl rfl) ?_
  simp [tset]
  refine CodeJ.cutAt 1 (fun st => st = ⟨93, [(0, .ptr 0 0 0), (3, .rop (conV c) 0), (5, .ptr 3 0 0)], NT p L ++ [none, some ⟨1, [.view 4 0 (c.rows.filter (liveB c L)).length], false⟩, some ⟨1, (c.rows.filter (liveB c L)).map ilv, false⟩]⟩) ?_ ?_
  · simp only [takeC_succ, takeC_zero]
    simp
    refine CodeJ.loop (ι := LW) (fun ⟨q, w⟩ => ⟨93, [(0, .ptr 0 0 0), (3, .rop (conV c) 0), (5, .ptr 3 0 0), (17, .ro (c.rows.map ilv)), (18, iv c.rows.length), (19, iv q)], NT p L ++ [none, some ⟨1, [.view 4 0 w.length], false⟩, some ⟨1, w.map ilv, false⟩]⟩)
      (fun ⟨q, w⟩ => q ≤ c.rows.length ∧ w = (c.rows.take q).filter (liveB c L)) (fun ⟨q, w⟩ => c.rows.length - q) ⟨0, []⟩ ?_ ?_ ?_
    · simp
    · simp [leS, hC, NT, netV]
    rintro ⟨q, w⟩ ⟨hq, hw⟩
    simp only [NT, netV, List.cons_append, List.nil_append]
    by_cases hlt : q < c.rows.length
    · have lr := lget_ilv hlt
      have rl := hc.k3 k3 _ (gt_mem hlt)
      have wl : w.length ≤ 12 := by
        have := List.length_filter_le (liveB c L) (c.rows.take q)
        rw [← hw] at this
        simp at this; omega
      have ft : (c.rows.take (q + 1)).filter (liveB c L) = if liveB c L (gt c.rows q) = true then w ++ [gt c.rows q] else w := by
        rw [take_gt hlt, List.filter_append, ← hw]
        by_cases e : liveB c L (gt c.rows q) = true <;> simp [e]
      generalize gt c.rows q = r at *
      have lk' := fun (k : Nat) (hk : k < c.vars.length) => lget_iv (l := r) (i := k) (by omega)
      simp (disch := omega) [hlt, lr]
      repeat (refine And.intro (by omega) ?_)
      refine CodeJ.loop (ι := LB) (fun ⟨k, b⟩ => ⟨93, [(0, .ptr 0 0 0), (3, .rop (conV c) 0), (5, .ptr 3 0 0), (7, ilv r), (8, bov b), (17, .ro (c.rows.map ilv)), (18, iv c.rows.length), (19, iv q), (24, ilv c.vars), (25, iv c.vars.length), (26, iv k)], NT p L ++ [none, some ⟨1, [.view 4 0 w.length], false⟩, some ⟨1, w.map ilv, false⟩]⟩)
        (fun ⟨k, b⟩ => k ≤ c.vars.length ∧ (b = true ↔ LvP c L r k)) (fun ⟨k, b⟩ => c.vars.length - k) ⟨0, true⟩ ?_ ?_ ?_
      · exact ⟨Nat.zero_le _, fun _ k hk => by omega, fun _ => rfl⟩
      · simp [leS, hC, NT, netV]
      rintro ⟨k, b⟩ ⟨hk, hb⟩
      simp only [NT, netV, List.cons_append, List.nil_append]
      by_cases hkl : k < c.vars.length
      · obtain ⟨u, ew, hw', lw, w12, w0, wb⟩ := hL.nat hc hkl
        have lu := lget_ilv hw'
        have vk := lget_iv (l := c.vars) hkl
        have rk := lk' k hkl
        have hkr : k < r.length := by omega
        have g := slContains_ok (gt L u) (by omega) (gt r k)
        have sc := @lvP_succ c L r k
        rw [lw] at sc
        have vk' := vk
        rw [ew] at vk'
        obtain ⟨b1, hb1⟩ : ∃ b1 : Bool, b1 = decide (gt r k ∈ gt L u) := ⟨_, rfl⟩
        have hb1' : b1 = true ↔ gt r k ∈ gt L u := by rw [hb1, decide_eq_true_eq]
        rw [← hb1] at g
        obtain ⟨b2, hb2⟩ : ∃ b2 : Bool, b2 = (b && b1) := ⟨_, rfl⟩
        have hb2' : b2 = true ↔ LvP c L r k ∧ gt r k ∈ gt L u := by rw [hb2, Bool.and_eq_true, hb, hb1']
        simp (disch := omega) [hkl, vk']
        repeat (refine And.intro (by omega) ?_)
        refine CodeJ.draw (.qs [0, 1, 2, 3, 4, 5, 6, 7, 8, 9, 10, 11, 12] <| .l 13 [] <| .qs [14, 15] <| .nil) (by kernel_rfl) (by kernel_rfl) (by simp) ?_
        cases b
        all_goals
          simp (disch := omega) [hw', lu, rk, hkr]
          repeat (refine And.intro (by omega) ?_)
          try (refine callS g (by simp) ?_; simp)
          refine CodeJ.loop (ι := LB) (fun ⟨t, b⟩ => ⟨93, [(0, .ptr 0 0 0), (3, .rop (conV c) 0), (5, .ptr 3 0 0), (7, ilv r), (8, bov b), (9, iv k), (10, iv u), (17, .ro (c.rows.map ilv)), (18, iv c.rows.length), (19, iv q), (24, ilv c.vars), (25, iv c.vars.length), (26, iv k), (47, ilv c.vars), (48, iv c.vars.length), (49, iv t)], NT p L ++ [none, some ⟨1, [.view 4 0 w.length], false⟩, some ⟨1, w.map ilv, false⟩]⟩)
            (fun ⟨t, b⟩ => t ≤ c.vars.length ∧ (b = true ↔ (LvP c L r k ∧ gt r k ∈ gt L u) ∧ LvT c r k t)) (fun ⟨t, b⟩ => c.vars.length - t) ⟨0, b2⟩ ?_ ?_ ?_
          · exact ⟨Nat.zero_le _, hb2'.trans ⟨fun h => ⟨h, fun t ht => by omega⟩, fun h => h.1⟩⟩
          · simp [leS, hC, hb2, NT, netV]
          rintro ⟨t, b⟩ ⟨ht, hbt⟩
          simp only [NT, netV, List.cons_append, List.nil_append]
          by_cases htl : t < c.vars.length
          · have vt := lget_iv (l := c.vars) htl
            have rt := lk' t htl
            have e2 : t < r.length := by omega
            have st := @lvT_succ c r k t
            simp (disch := omega) [htl, vt]
            repeat (refine And.intro (by omega) ?_)
            refine CodeJ.draw (.qs [0, 1, 2, 3, 4, 5, 6, 7, 8, 9, 10, 11, 12, 13, 14, 15, 16, 17] <| .nil) (by kernel_rfl) (by kernel_rfl) (by simp) ?_
            cases b with
            | true =>
              have hbt' := hbt.1 rfl
              by_cases e : gt c.vars t = (u : Int)
              · simp (disch := omega) [hkl, htl, rt, rk, e2, hkr, e]
                repeat (refine And.intro (by omega) ?_)
                refine ⟨⟨t + 1, decide (gt r t = gt r k)⟩, ⟨htl, ?_⟩, Nat.sub_succ_lt_self _ _ htl, by simp (disch := omega) [leS, hC, w64, NT, netV]⟩
                rw [decide_eq_true_eq, st, ew]
                exact ⟨fun z => ⟨hbt'.1, hbt'.2, .inr z⟩, fun z => z.2.2.resolve_left fun z => z e⟩
              · simp (disch := omega) [hkl, htl, rt, rk, e2, hkr, e]
                repeat (refine And.intro (by omega) ?_)
                exact ⟨⟨t + 1, true⟩, ⟨htl, fun _ => ⟨hbt'.1, st.2 ⟨hbt'.2, .inl (by rw [ew]; exact e)⟩⟩, fun _ => rfl⟩, Nat.sub_succ_lt_self _ _ htl, by simp (disch := omega) [leS, hC, w64, NT, netV]⟩
            | false =>
              simp (disch := omega) [hkl, htl, rt, rk, e2, hkr]
              repeat (refine And.intro (by omega) ?_)
              exact ⟨⟨t + 1, false⟩, ⟨htl, fun z => (by cases z), fun z => hbt.2 ⟨z.1, (st.1 z.2).1⟩⟩, Nat.sub_succ_lt_self _ _ htl, by simp (disch := omega) [leS, hC, w64, NT, netV]⟩
          · obtain rfl : t = c.vars.length := by omega
            simp
            exact ⟨⟨k + 1, b⟩, ⟨hkl, hbt.trans sc.symm⟩, Nat.sub_succ_lt_self _ _ hkl, by simp (disch := omega) [leS, hC, w64, NT, netV]⟩
      · obtain rfl : k = c.vars.length := by omega
        rw [← liveB_iff] at hb
        simp
        refine ⟨fun z => ?_, fun z => ?_⟩
        · rw [if_pos (hb.1 z)] at ft
          exact ⟨⟨by simp [hC], by omega⟩, ⟨q + 1, w ++ [r]⟩, ⟨hlt, ft.symm⟩, Nat.sub_succ_lt_self _ _ hlt, by simp (disch := omega) [leS, hC, w64, NT, netV]⟩
        · rw [if_neg (fun h => by rw [hb.2 h] at z; cases z)] at ft
          exact ⟨⟨q + 1, w⟩, ⟨hlt, ft.symm⟩, Nat.sub_succ_lt_self _ _ hlt, by simp (disch := omega) [leS, hC, w64, NT, netV]⟩
    · obtain rfl : q = c.rows.length := by omega
      rw [List.take_length] at hw
      subst hw
      simp
      exact ⟨rfl, by simp [leF, Go.Sv.get], leM_self _, .inl rfl⟩
  rintro st rfl
  simp only [dropC_succ, dropC_zero, NT, netV, List.cons_append, List.nil_append]
  have wl : (c.rows.filter (liveB c L)).length ≤ 12 := Nat.le_trans (List.length_filter_le _ _) hr
  have wr : ∀ r ∈ c.rows.filter (liveB c L), r.length = c.vars.length := fun r h => hc.k3 k3 r (List.mem_filter.1 h).1
  have pm : ∀ i v, (c.rows.filter (liveB c L)).any (rowB i v) = true ↔ May c L i v := fun i v => by
    unfold May
    rw [if_neg (by omega), if_neg (by omega), if_pos k3, rowM_iff]
    simp only [List.any_eq_true, List.mem_filter, rowB, decide_eq_true_eq]
    exact ⟨fun ⟨r, h1, h2⟩ => ⟨r, h1.1, h1.2, h2⟩, fun ⟨r, h1, h2, h3⟩ => ⟨r, ⟨h1, h2⟩, h3⟩⟩
  generalize c.rows.filter (liveB c L) = ws at *
  refine CodeJ.frz 4 rfl (by simp) ?_
  simp [frzS, tset]
  refine CodeJ.frz 3 rfl (by simp) ?_
  simp [frzS, tset]
  refine CodeJ.go ?_
  simp
  refine CodeJ.loop (ι := LI) (fun ⟨i, ag, L'⟩ => ⟨93, [(0, .ptr 0 0 0), (3, .rop (conV c) 0), (5, .rop (.ro (ws.map ilv)) 0), (13, bov ag), (80, ilv c.vars), (81, iv c.vars.length), (82, iv i)], NT p L'⟩)
    (fun ⟨i, ag, L'⟩ => i ≤ c.vars.length ∧ Sofar c L L' ag (fun j => j < i)) (fun ⟨i, ag, L'⟩ => c.vars.length - i) ⟨0, false, L⟩ ?_ ?_ ?_
  · exact ⟨Nat.zero_le _, sofar_0 c L⟩
  · simp [leS, hC, NT, netV]
  rintro ⟨i, ag, L'⟩ ⟨hi, hs⟩
  simp only [NT, netV]
  by_cases hlt : i < c.vars.length
  · obtain ⟨u, ew, hw, lw, w12, w0, wb⟩ := hL.nat hc hlt
    have vi := lget_iv (l := c.vars) hlt
    rw [ew] at vi
    have hw' : u < L'.length := by rw [hs.len]; exact hw
    have w12' : (gt L' u).length ≤ 12 := Nat.le_trans (hs.cut.sub u hw).length_le w12
    have sm := hs.mayO hc hL.len hL.asc hlt (fun v => ws.any (rowB i v)) fun v _ => pm i v
    have lw' : lk c L' i = gt L' u := by unfold lk; rw [ew, Int.toNat_natCast]
    rw [ew, lw', Int.toNat_natCast] at sm
    have gk := nKeep_ok p L' u hw' w12' [] 110 [.rop (.ro (ws.map ilv)) 0, .rop (iv i) 0] (.inl ⟨rfl, fun σ => by simp⟩) (fun n _ => by simp) (by simp) (fun v => ws.any (rowB i v)) (fun v hv => eff_of_pure (table1_ok ws (by omega) i (fun r hr => by rw [wr r hr]; exact hlt) v) (by simp) _)
    obtain ⟨L2, e2⟩ : ∃ L2, L'.set u ((gt L' u).filter fun v => ws.any (rowB i v)) = L2 := ⟨_, rfl⟩
    obtain ⟨b2, eb⟩ : ∃ b2, decide (((gt L' u).filter fun v => ws.any (rowB i v)).length < (gt L' u).length) = b2 := ⟨_, rfl⟩
    rw [e2, eb] at sm
    rw [e2, eb, List.append_nil, List.append_nil] at gk
    simp (disch := omega) [hlt, vi]
    repeat (refine And.intro (by omega) ?_)
    refine callFz 2 rfl (by simp) ?_
    simp
    refine callT gk [0, 1] (by simp [NT, netV]) (by simp [NT, netV]) (by simp) (by simp [NT, netV]) (by simp [NT, netV]) ?_
    rintro T y ⟨rfl, rfl⟩
    simp [NT, netV]
    refine ⟨fun q => ?_, fun q => ?_⟩
    all_goals
      exact ⟨⟨i + 1, b2 || ag, L2⟩, ⟨hlt, sm⟩, Nat.sub_succ_lt_self _ _ hlt, by simp (disch := omega) [leS, hC, w64, NT, netV, q]⟩
  · obtain rfl : i = c.vars.length := by omega
    simp
    exact ⟨_, _, ⟨L', ag, rfl, rfl, hs.rule fun j hj => hj⟩, rfl, by simp [NT, netV, leM], by simp [NT, netV], .inl rfl⟩
end Go.Proofs

