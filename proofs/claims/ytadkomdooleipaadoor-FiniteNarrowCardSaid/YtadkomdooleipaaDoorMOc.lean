/- What is left of the lists, the program's net: the least and the greatest, what is kept. What is left of the lists, the program's rules: sums. What is left of the lists, the program's rules: tables. What is left of the lists, the program's rules: what is asked of places. What is left of the lists, the program's rules: places. What is left of the lists, the program's rules: shares. What is left of the lists, the program's rules: shares, whole. A text of the prover's own. -/
import Derived.Test.YtadkomdooleipaaDoorMAy
namespace Go.Fn
open Go Go.Sv Go.Pl Go.Proofs Go.Tb Go.Ut
def netV (p : Puz) (n : Nat) : SV := .agg [.ro (p.values.map ilv), .ro (p.cons.map conV), .view 1 0 n]
/-- the net and what is left -/
def NT (p : Puz) (L : Lf) : Tab := [some ⟨3, [netV p L.length], false⟩, some ⟨1, L.map ilv, false⟩]
/-- a variable that holds the net's address -/
def nC : Option Ent := some ⟨1, [.ptr 0 0 0], false⟩
theorem eff_of_pure {P : Program} {f : FuncId} {args : List SV} {y : SV} (h : PureF P f args y) (hp : SV.pureL args = true) (T : Tab) : EffC P f args T [] (fun T' y' => T' = T ∧ y' = y) := fun C hC => callS h hp ⟨rfl, T, y, ⟨rfl, rfl⟩, rfl, leM_self _, Nat.le_refl _, .inl rfl⟩
end Go.Fn
namespace Go.Sv
open Go
@[simp] theorem ev_func (fr : List (Nat × SV)) (f : FuncId) : ev fr (.func f) = some (.val (.func (.func f) #[] #[])) := rfl
/-- a plain function as a value that may be called -/
def fnX : SV → SV
  | .val (.func (.func f) ⟨[]⟩ ⟨[]⟩) => .fnv f [] []
  | x => x
@[simp] theorem fnX_fn {f : FuncId} : fnX (.val (.func (.func f) #[] #[])) = .fnv f [] [] := rfl
theorem fnX_den {β : Bnd} {H : Hp} {x : SV} {v : Value} (h : Den β H x v) : Den β H (fnX x) v := by
  unfold fnX
  split
  · simp only [Den] at h ⊢
    exact ⟨[], [], h.1, by simp only [DenT], by simp only [DenT]⟩
  · exact h
theorem fnX_denT {β : Bnd} {H : Hp} : ∀ {l : List SV} {vs : List Value}, DenT β H l vs → DenT β H (l.map fnX) vs
  | [], vs, h => h
  | x :: l, vs, h => by
    simp only [DenT, List.map_cons] at h ⊢
    obtain ⟨v, r, rfl, h1, h2⟩ := h
    exact ⟨v, r, rfl, fnX_den h1, fnX_denT h2⟩
theorem callFn {P : Program} {C : Ctx} {f : FuncId} {args : List SV} {M : Tab} {W : Option (List Nat)} {K : Tab → List Nat → SV → Prop} (h : CallJ P C f (args.map fnX) M W K) : CallJ P C f args M W K :=
  fun β H w vals hd hW => h β H w vals (fnX_denT hd) hW
@[simp] theorem fnX_view {k i n : Nat} : fnX (.view k i n) = .view k i n := rfl
end Go.Sv
namespace Go.Proofs
open Go.Sv Go Go.Tb Go.Pl Go.Ut Go.Fn
set_option maxRecDepth 10000 in
theorem nLow_ok (p : Puz) (L : Lf) (k : Nat) (hk : k < L.length) (hl : 0 < (gt L k).length) : EffC Tryd.prog 111 [.ptr 0 0 0, iv k] (NT p L) [] (fun T y => T = NT p L ∧ y = iv (low (gt L k))) := by
  have lv := lget_ilv hk
  have ll := lget_iv (l := gt L k) (i := 0) hl
  have e : gt (gt L k) 0 = low (gt L k) := rfl
  rw [e] at ll
  refine eff_enterC Tryd.func111 rfl (by simp) (fun C hC => ?_)
  refine CodeJ.go ?_
  simp only [NT, netV]
  simp (disch := omega) [hk, lv, ll, hl]
  repeat (refine And.intro (by omega) ?_)
  exact ⟨_, _, ⟨rfl, rfl⟩, rfl, by simp [leM], by simp, .inl rfl⟩
set_option maxRecDepth 10000 in
theorem nHigh_ok (p : Puz) (L : Lf) (k : Nat) (hk : k < L.length) (hl : 0 < (gt L k).length) (h12 : (gt L k).length ≤ 12) : EffC Tryd.prog 112 [.ptr 0 0 0, iv k] (NT p L) [] (fun T y => T = NT p L ∧ y = iv (high (gt L k))) := by
  have lv := lget_ilv hk
  have ll := lget_iv (l := gt L k) (i := (gt L k).length - 1) (by omega)
  have e : gt (gt L k) ((gt L k).length - 1) = high (gt L k) := rfl
  rw [e] at ll
  have e8 : (((gt L k).length : Int) - 1).toNat = (gt L k).length - 1 := by omega
  refine eff_enterC Tryd.func112 rfl (by simp) (fun C hC => ?_)
  refine CodeJ.go ?_
  simp only [NT, netV]
  simp (disch := omega) []
  repeat (refine And.intro (by omega) ?_)
  refine CodeJ.draw (.qs [0, 1, 2, 3, 4, 5, 6, 7, 8, 9, 10, 11, 12, 13, 14, 15, 16, 17, 18] <| .nil) (by kernel_rfl) (by kernel_rfl) (by simp) ?_
  simp (disch := omega) [hk, lv, ll, e8, w64]
  repeat (refine And.intro (by omega) ?_)
  exact ⟨_, _, ⟨rfl, rfl⟩, rfl, by simp [leM], by simp, .inl rfl⟩
theorem empty1_ok (l : List Int) : PureF Tryd.prog 46 [ilv l] (bov (decide (l.length = 0))) := by
  refine pure_enter Tryd.func46 rfl (by simp) (fun C hC => ?_)
  simp
set_option maxRecDepth 10000 in
theorem nEmpty_ok (p : Puz) (L : Lf) (hl : L.length ≤ 1000) : EffC Tryd.prog 32 [.ptr 0 0 0] (NT p L) [] (fun T y => T = NT p L ∧ TB (¬ NE L) y) := by
  refine eff_enterC Tryd.func32 rfl (by simp) (fun C hC => ?_)
  refine CodeJ.go ?_
  simp only [NT, netV]
  simp
  refine callFn ?_
  simp
  obtain ⟨b, hb⟩ : ∃ b, (L.any fun l => decide (l.length = 0)) = b := ⟨_, rfl⟩
  have g := slAny_ok L (by omega) 46 [] rfl (by simp) (fun l => decide (l.length = 0)) (fun r _ => empty1_ok r)
  rw [hb] at g
  have hb' : b = true ↔ ¬ NE L := by
    rw [← hb, List.any_eq_true]
    constructor
    · rintro ⟨l, h1, h2⟩ h
      obtain ⟨j, hj, rfl⟩ := List.getElem_of_mem h1
      rw [gt_get hj] at h2
      exact h j hj (List.eq_nil_of_length_eq_zero (by simpa using h2))
    · intro h
      rcases Classical.em (∃ l ∈ L, decide (l.length = 0) = true) with q | q
      · exact q
      · exact absurd (fun k hk e => q ⟨_, gt_mem hk, by rw [e]; rfl⟩) h
  refine callQ g (by simp) (fun x hx => ⟨by rw [hx]; rfl, ?_⟩)
  subst hx
  simp
  exact ⟨_, _, ⟨rfl, b, rfl, hb'⟩, rfl, by simp [leM], by simp, .inl rfl⟩
set_option maxRecDepth 10000 in
set_option maxHeartbeats 1000000 in
theorem nKeep_ok (p : Puz) (L : Lf) (k : Nat) (hk : k < L.length) (h12 : (gt L k).length ≤ 12) (E : Tab) (F : FuncId) (caps : List SV) (hE : (E = [] ∧ ∀ σ, renL σ caps = caps) ∨ (E = [nC] ∧ ∀ σ, σ 0 = 0 → σ 1 = 1 → σ 2 = 2 → renL σ caps = caps)) (hl : ∀ n, 2 + E.length ≤ n → SV.ltL n caps = true) (hF : callOK Tryd.prog F) (f : Int → Bool)
    (hg : ∀ v ∈ gt L k, EffC Tryd.prog F (iv v :: caps) (NT p L ++ E) [] (fun T y => T = NT p L ++ E ∧ y = bov (f v))) :
    EffC Tryd.prog 113 [.ptr 0 0 0, iv k, .fnv F [] caps] (NT p L ++ E) [] (fun T y => T = NT p (L.set k ((gt L k).filter f)) ++ E ∧ y = bov (decide (((gt L k).filter f).length < (gt L k).length))) := by
  have lv := lget_ilv hk
  have hu : ∀ n, 2 + E.length ≤ n → SV.usesL n caps = false := fun n h => SV.ltL_uses (Nat.le_refl n) _ (hl n h)
  refine eff_enterC Tryd.func113 rfl (by simp) (fun C hC => ?_)
  generalize hlk : gt L k = l at *
  obtain ⟨L2, e2⟩ : ∃ L2, L.set k (l.filter f) = L2 := ⟨_, rfl⟩
  have l2 : L2.length = L.length := by rw [← e2]; simp
  obtain ⟨b2, eb⟩ : ∃ b, decide ((l.filter f).length < l.length) = b := ⟨_, rfl⟩
  rw [e2, eb]
  rcases hE with ⟨rfl, hren⟩ | ⟨rfl, hren⟩
  · have hC : C.fx = [0, 1] := hC
    have hu := hu 2 (by simp)
    have hlt2 := hl 3 (by simp)
    simp only [NT, netV, List.append_nil]
    refine CodeJ.cutAt 2 (fun st => st = ⟨50, [(0, .ptr 0 0 0), (1, iv k), (2, .fnv F [] caps), (7, .val (.slice none 0 0))], [some ⟨3, [.agg [.ro (p.values.map ilv), .ro (p.cons.map conV), .view 1 0 L.length]], false⟩, some ⟨1, L.map ilv, false⟩]⟩) ?_ ?_
    · simp only [takeC_succ, takeC_zero]
      simp
      exact ⟨rfl, by simp [leF, Go.Sv.get], leM_self _, .inl rfl⟩
    rintro st rfl
    simp only [dropC_succ, dropC_zero]
    refine CodeJ.nil 7 1 rfl ?_
    simp
    refine CodeJ.cutAt 1 (fun st => st = ⟨50, [(0, .ptr 0 0 0), (1, iv k), (7, .view 2 0 (l.filter f).length)], [some ⟨3, [.agg [.ro (p.values.map ilv), .ro (p.cons.map conV), .view 1 0 L.length]], false⟩, some ⟨1, L.map ilv, false⟩, some ⟨1, (l.filter f).map iv, false⟩]⟩) ?_ ?_
    · simp only [takeC_succ, takeC_zero]
      simp (disch := omega) [hk, lv]
      repeat (refine And.intro (by omega) ?_)
      refine CodeJ.loop (ι := Nat × List Int) (fun ⟨i, w⟩ => ⟨50, [(0, .ptr 0 0 0), (1, iv k), (2, .fnv F [] caps), (7, .view 2 0 w.length), (17, ilv l), (18, iv l.length), (19, iv i)], [some ⟨3, [.agg [.ro (p.values.map ilv), .ro (p.cons.map conV), .view 1 0 L.length]], false⟩, some ⟨1, L.map ilv, false⟩, some ⟨1, w.map iv, false⟩]⟩)
        (fun ⟨i, w⟩ => i ≤ l.length ∧ w = (l.take i).filter f) (fun ⟨i, w⟩ => l.length - i) (0, []) ?_ ?_ ?_
      · simp
      · simp [leS, hC]
      rintro ⟨i, w⟩ ⟨hi, hw⟩
      have wl : w.length ≤ 12 := by
        have := List.length_filter_le f (l.take i)
        rw [← hw] at this
        simp at this; omega
      by_cases hlt : i < l.length
      · have lu := lget_iv hlt
        have ft : (l.take (i + 1)).filter f = if f (gt l i) = true then w ++ [gt l i] else w := by
          rw [take_gt hlt, List.filter_append, ← hw]
          by_cases e : f (gt l i) = true <;> simp [e]
        have gg := hg _ (gt_mem hlt)
        generalize gt l i = u at *
        simp (disch := omega) [hlt, lu, hF]
        repeat (refine And.intro (by omega) ?_)
        refine callT gg [0, 1] (by simp []) (by simp [NT, netV]) (by simp [hren]) (by simp [NT, netV]) (by simp []) ?_
        rintro T y ⟨rfl, rfl⟩
        simp [NT, netV]
        refine ⟨fun q => ?_, fun q => ?_⟩
        · rw [if_pos q] at ft
          simp (disch := omega) [hu]
          repeat (refine And.intro (by omega) ?_)
          exact ⟨⟨by simp [hC], by omega⟩, i + 1, w ++ [u], ⟨by omega, ft.symm⟩, by omega, by simp (disch := omega) [leS, hC, w64, hlt2]⟩
        · rw [if_neg (by simp [q])] at ft
          exact ⟨i + 1, w, ⟨by omega, ft.symm⟩, by omega, by simp (disch := omega) [leS, hC, w64]⟩
      · obtain rfl : i = l.length := by omega
        rw [List.take_length] at hw
        subst hw
        simp
        exact ⟨rfl, by simp [leF, Go.Sv.get], leM_self _, .inl rfl⟩
    rintro st rfl
    simp only [dropC_succ, dropC_zero]
    generalize l.filter f = w at *
    refine CodeJ.frz 2 rfl (by simp) ?_
    simp [frzS, tset]
    refine CodeJ.go ?_
    simp (disch := omega) [hk, lv, lset_ilv, e2, l2, -List.map_set]
    repeat (refine And.intro (by omega) ?_)
    exact ⟨_, _, ⟨rfl, rfl⟩, by rw [← eb], by simp [leM], by simp, .inr ⟨by simp, by simp [ltM]⟩⟩
  · have hC : C.fx = [0, 1, 2] := hC
    have hu := hu 3 (by simp)
    have hlt2 := hl 4 (by simp)
    simp only [NT, netV, List.cons_append, List.nil_append, nC]
    refine CodeJ.cutAt 2 (fun st => st = ⟨50, [(0, .ptr 0 0 0), (1, iv k), (2, .fnv F [] caps), (7, .val (.slice none 0 0))], [some ⟨3, [.agg [.ro (p.values.map ilv), .ro (p.cons.map conV), .view 1 0 L.length]], false⟩, some ⟨1, L.map ilv, false⟩, some ⟨1, [.ptr 0 0 0], false⟩]⟩) ?_ ?_
    · simp only [takeC_succ, takeC_zero]
      simp
      exact ⟨rfl, by simp [leF, Go.Sv.get], leM_self _, .inl rfl⟩
    rintro st rfl
    simp only [dropC_succ, dropC_zero]
    refine CodeJ.nil 7 1 rfl ?_
    simp
    refine CodeJ.cutAt 1 (fun st => st = ⟨50, [(0, .ptr 0 0 0), (1, iv k), (7, .view 3 0 (l.filter f).length)], [some ⟨3, [.agg [.ro (p.values.map ilv), .ro (p.cons.map conV), .view 1 0 L.length]], false⟩, some ⟨1, L.map ilv, false⟩, some ⟨1, [.ptr 0 0 0], false⟩, some ⟨1, (l.filter f).map iv, false⟩]⟩) ?_ ?_
    · simp only [takeC_succ, takeC_zero]
      simp (disch := omega) [hk, lv]
      repeat (refine And.intro (by omega) ?_)
      refine CodeJ.loop (ι := Nat × List Int) (fun ⟨i, w⟩ => ⟨50, [(0, .ptr 0 0 0), (1, iv k), (2, .fnv F [] caps), (7, .view 3 0 w.length), (17, ilv l), (18, iv l.length), (19, iv i)], [some ⟨3, [.agg [.ro (p.values.map ilv), .ro (p.cons.map conV), .view 1 0 L.length]], false⟩, some ⟨1, L.map ilv, false⟩, some ⟨1, [.ptr 0 0 0], false⟩, some ⟨1, w.map iv, false⟩]⟩)
        (fun ⟨i, w⟩ => i ≤ l.length ∧ w = (l.take i).filter f) (fun ⟨i, w⟩ => l.length - i) (0, []) ?_ ?_ ?_
      · simp
      · simp [leS, hC]
      rintro ⟨i, w⟩ ⟨hi, hw⟩
      have wl : w.length ≤ 12 := by
        have := List.length_filter_le f (l.take i)
        rw [← hw] at this
        simp at this; omega
      by_cases hlt : i < l.length
      · have lu := lget_iv hlt
        have ft : (l.take (i + 1)).filter f = if f (gt l i) = true then w ++ [gt l i] else w := by
          rw [take_gt hlt, List.filter_append, ← hw]
          by_cases e : f (gt l i) = true <;> simp [e]
        have gg := hg _ (gt_mem hlt)
        generalize gt l i = u at *
        simp (disch := omega) [hlt, lu, hF]
        repeat (refine And.intro (by omega) ?_)
        refine callT gg [0, 1, 2] (by simp []) (by simp [NT, netV, nC]) (by simp [hren (sg [0, 1, 2] 4) rfl rfl rfl]) (by simp [NT, netV, nC]) (by simp []) ?_
        rintro T y ⟨rfl, rfl⟩
        simp [NT, netV, nC]
        refine ⟨fun q => ?_, fun q => ?_⟩
        · rw [if_pos q] at ft
          simp (disch := omega) [hu]
          repeat (refine And.intro (by omega) ?_)
          exact ⟨⟨by simp [hC], by omega⟩, i + 1, w ++ [u], ⟨by omega, ft.symm⟩, by omega, by simp (disch := omega) [leS, hC, w64, hlt2]⟩
        · rw [if_neg (by simp [q])] at ft
          exact ⟨i + 1, w, ⟨by omega, ft.symm⟩, by omega, by simp (disch := omega) [leS, hC, w64]⟩
      · obtain rfl : i = l.length := by omega
        rw [List.take_length] at hw
        subst hw
        simp
        exact ⟨rfl, by simp [leF, Go.Sv.get], leM_self _, .inl rfl⟩
    rintro st rfl
    simp only [dropC_succ, dropC_zero]
    generalize l.filter f = w at *
    refine CodeJ.frz 3 rfl (by simp) ?_
    simp [frzS, tset]
    refine CodeJ.go ?_
    simp (disch := omega) [hk, lv, lset_ilv, e2, l2, -List.map_set]
    repeat (refine And.intro (by omega) ?_)
    exact ⟨_, _, ⟨rfl, rfl⟩, by rw [← eb], by simp [leM], by simp, .inr ⟨by simp, by simp [ltM]⟩⟩
end Go.Proofs
namespace Go.Fn
open Go Go.Sv Go.Pl Go.Proofs Go.Tb Go.Ut
/-- what a rule of the program does -/
def RulQ (p : Puz) (c : Con) (L : Lf) (T : Tab) (y : SV) : Prop := ∃ (L' : Lf) (b : Bool), T = NT p L' ∧ y = bov b ∧ Rule c L L' b
section
variable {n : Nat} {c : Con} {L L' : Lf} {ag : Bool} {D : Nat → Prop}
theorem sofar_lok (h : Sofar c L L' ag D) (hL : LOK n L) (ne : NE L') : LOK n L' where
  len := h.len.trans hL.len
  n6 := hL.n6
  ne := ne
  asc := h.asc hL.asc
  l12 := fun k hk => Nat.le_trans (h.cut.sub k (by rw [hL.len]; exact hk)).length_le (hL.l12 k hk)
  bd := fun k hk v hv => hL.bd k hk v ((h.cut.sub k (by rw [hL.len]; exact hk)).subset hv)
theorem ne_set {k : Nat} {l : List Int} (h : NE L) (hl : 0 < l.length) : NE (L.set k l) := fun j hj e => by
  have hj' : j < L.length := by simpa using hj
  rw [gt_setL hj'] at e
  split at e
  · rw [e] at hl; simp at hl
  · exact h j hj' e
theorem LOK.nat (h : LOK n L) (hc : ConOK n c) {i : Nat} (hi : i < c.vars.length) : ∃ k : Nat, gt c.vars i = (k : Int) ∧ k < L.length ∧ lk c L i = gt L k ∧ (gt L k).length ≤ 12 ∧ 0 < (gt L k).length ∧ ∀ v ∈ gt L k, Bd8 v := by
  obtain ⟨d1, d2, d3, d4, d5, d6⟩ := h.at hc hi
  exact ⟨(gt c.vars i).toNat, by omega, d4, rfl, d2, d3, d6⟩
/-- a rule's step at a place: what is kept, and whether it is over -/
theorem sofar_two {k i : Nat} {f : Int → Bool} (hk : k < L'.length) (ne : NE L') (hs : Sofar c L (L'.set k ((gt L' k).filter f)) (decide (((gt L' k).filter f).length < (gt L' k).length) || ag) (fun j => j < i + 1)) :
    ∃ (L2 : Lf) (b2 : Bool), L'.set k ((gt L' k).filter f) = L2 ∧ decide (((gt L' k).filter f).length < (gt L' k).length) = b2 ∧ L2.length = L'.length ∧ Sofar c L L2 (b2 || ag) (fun j => j < i + 1) ∧ (gt L2 k).length ≤ (gt L' k).length ∧ ((gt L2 k).length = 0 → b2 = true) ∧ (0 < (gt L2 k).length → NE L2) := by
  refine ⟨_, _, rfl, rfl, by simp, hs, ?_⟩
  rw [gt_setL hk, if_pos rfl]
  refine ⟨List.length_filter_le _ _, fun h => ?_, fun h => ne_set ne h⟩
  have := List.length_pos_iff.2 (ne k hk)
  exact decide_eq_true (by omega)
end
structure LW1 where
  k : Nat
  w : List Int
structure LI where
  i : Nat
  ag : Bool
  L : Lf
def sumB (a lim lo hi v : Int) : Bool := decide (lim - hi ≤ a * v) && decide (a * v ≤ lim - lo)
end Go.Fn
namespace Go.Proofs
open Go.Sv Go Go.Tb Go.Pl Go.Ut Go.Fn
set_option maxRecDepth 10000 in
theorem sum1_ok (c : Con) (i : Nat) (hi : i < c.nums.length) (lo hi' v : Int) (ha : Bd8 (gt c.nums i)) (hv : Bd8 v) (hl : -100000000 ≤ c.limit ∧ c.limit ≤ 100000000) (h1 : -100000000000000000 ≤ lo ∧ lo ≤ 100000000000000000) (h2 : -100000000000000000 ≤ hi' ∧ hi' ≤ 100000000000000000) :
    PureF Tryd.prog 114 [iv v, .rop (conV c) 0, .rop (iv i) 0, .rop (iv hi') 0, .rop (iv lo) 0] (bov (sumB (gt c.nums i) c.limit lo hi' v)) := by
  have ni := lget_iv (l := c.nums) hi
  have bm := mul_bd ha hv
  refine pure_enter Tryd.func114 rfl (by simp) (fun C hC => ?_)
  simp
  refine CodeJ.draw (.qs [0, 1, 2, 3, 4, 5, 6, 7, 8, 9, 10, 11, 12, 13, 14, 15, 16, 17, 18, 19, 20, 21, 22, 23, 24, 25, 26] <| .nil) (by kernel_rfl) (by kernel_rfl) (by simp) ?_
  generalize hx : gt c.nums i * v = x at *
  simp only [sumB, hx]
  by_cases q : c.limit - hi' ≤ x
  · simp (disch := omega) [hi, ni, hx, w64, q]
    repeat (refine And.intro (by omega) ?_)
  · simp (disch := omega) [hi, ni, hx, w64, q]
    repeat (refine And.intro (by omega) ?_)
set_option maxRecDepth 10000 in
set_option maxHeartbeats 2000000 in
theorem nSum_ok {p : Puz} {n : Nat} {c : Con} (hc : ConOK n c) (k2 : c.kind = 2) {L : Lf} (hL : LOK n L) : EffC Tryd.prog 110 [.ptr 0 0 0, conV c] (NT p L) [] (RulQ p c L) := by
  have h8 := hc.vl
  have n2 := hc.k2 k2
  have bl := hc.li
  refine eff_enterC Tryd.func110 rfl (by simp) (fun C hC => ?_)
  have hC : C.fx = [0, 1] := hC
  simp only [NT, netV]
  refine CodeJ.seqI (CodeJ.regionI (OpsJ.go ?_))
  simp
  refine CodeJ.frz 2 rfl (by simp) ?_
  simp [frzS, tset]
  refine CodeJ.go ?_
  simp
  refine CodeJ.loop (ι := LI) (fun ⟨i, ag, L'⟩ => ⟨77, [(0, .ptr 0 0 0), (3, .rop (conV c) 0), (5, bov ag), (15, ilv c.vars), (16, iv c.vars.length), (17, iv i)], NT p L'⟩)
    (fun ⟨i, ag, L'⟩ => i ≤ c.vars.length ∧ Sofar c L L' ag (fun j => j < i) ∧ NE L') (fun ⟨i, ag, L'⟩ => c.vars.length - i) ⟨0, false, L⟩ ?_ ?_ ?_
  · exact ⟨by omega, sofar_0 c L, hL.ne⟩
  · simp [leS, hC, NT, netV]
  rintro ⟨i, ag, L'⟩ ⟨hi, hs, ne⟩
  by_cases hlt : i < c.vars.length
  · have hL' := sofar_lok hs hL ne
    have vi := lget_iv (l := c.vars) hlt
    have bd : ∀ k, k < c.vars.length → Bd8 (gt c.nums k) ∧ Bd8 (low (lk c L' k)) ∧ Bd8 (high (lk c L' k)) := fun k hk => by
      obtain ⟨d1, d2, d3, d4, d5, d6⟩ := hL'.at hc hk
      exact ⟨hc.nu k (by omega), low_bd d6 d3⟩
    simp only [NT, netV]
    simp (disch := omega) [hlt, vi]
    repeat (refine And.intro (by omega) ?_)
    refine CodeJ.frz 2 rfl (by simp) ?_
    simp [frzS, tset]
    refine CodeJ.loopC (ι := Nat) (fun k => ⟨77, [(0, .ptr 0 0 0), (3, .rop (conV c) 0), (5, bov ag), (6, .rop (iv i) 0), (7, iv (gt c.vars i)), (8, .ptr 3 0 0), (9, .ptr 4 0 0), (15, ilv c.vars), (16, iv c.vars.length), (17, iv i), (23, ilv c.vars), (24, iv c.vars.length), (25, iv k)], NT p L' ++ [none, some ⟨1, [iv (lowS c L' i k)], false⟩, some ⟨1, [iv (highS c L' i k)], false⟩]⟩)
      (fun k => k ≤ c.vars.length) (fun k => c.vars.length - k) 0 (by omega) ?_ ?_
    · simp [leS, hC, lowS, highS, sumN, NT, netV]
    rintro k hk
    simp only [NT, netV, List.cons_append, List.nil_append]
    by_cases hkl : k < c.vars.length
    · refine CodeJ.go ?_
      obtain ⟨w, ew, hw, lw, w12, w0, wb⟩ := hL'.nat hc hkl
      have vk := lget_iv (l := c.vars) hkl
      have nk := lget_iv (l := c.nums) (i := k) (by omega)
      have ekn : k < c.nums.length := by omega
      have e1 : lowS c L' i (k + 1) = lowS c L' i k + if k = i then 0 else min (gt c.nums k * low (lk c L' k)) (gt c.nums k * high (lk c L' k)) := rfl
      have e2 : highS c L' i (k + 1) = highS c L' i k + if k = i then 0 else max (gt c.nums k * low (lk c L' k)) (gt c.nums k * high (lk c L' k)) := rfl
      have bS := lowS_bd (i := i) bd k (by omega)
      have bm := minmax_bd (bd k hkl).1 (bd k hkl).2.1 (bd k hkl).2.2
      have gl := nLow_ok p L' w hw w0
      have gh := nHigh_ok p L' w hw w0 w12
      rw [lw] at e1 e2 bm
      rw [ew] at vk
      generalize high (gt L' w) = hg at *
      generalize low (gt L' w) = lo at *
      generalize gt c.nums k = a at *
      by_cases c1 : k = i
      · subst c1
        rw [if_pos rfl] at e1 e2
        simp (disch := omega) [hkl, vk, w64]
        repeat (refine And.intro (by omega) ?_)
        exact ⟨k + 1, by omega, by omega, Le.syn (by simp (disch := omega) [leS, hC, e1, e2])⟩
      · have c1' : ¬ (k : Int) = i := by omega
        rw [if_neg c1] at e1 e2
        generalize hx : a * lo = x at *
        generalize hy : a * hg = y at *
        simp (disch := omega) [hkl, c1', vk]
        repeat (refine And.intro (by omega) ?_)
        refine CodeJ.draw (.qs [0] <| .q 1 [0, 1] <| .qs [2, 3] <| .q 4 [0, 1] <| .qs [5, 6, 9] <| .q 10 [0, 1] <| .qs [11, 12] <| .q 13 [0, 1] <| .qs [14, 15] <| .l 7 [0, 1] <| .qs [8] <| .l 16 [0, 1] <| .qs [17, 18, 19] <| .nil) (by kernel_rfl) (by kernel_rfl) (by simp) ?_
        simp (disch := omega) [nk, ekn]
        repeat (refine And.intro (by omega) ?_)
        refine callT gl [0, 1] (by simp []) (by simp [NT, netV]) (by simp) (by simp [NT, netV]) (by simp []) ?_
        rintro T y ⟨rfl, rfl⟩
        simp [NT, netV]
        simp (disch := omega) [hx, w64]
        repeat (refine And.intro (by omega) ?_)
        refine callT gh [0, 1] (by simp []) (by simp [NT, netV]) (by simp) (by simp [NT, netV]) (by simp []) ?_
        rintro T y ⟨rfl, rfl⟩
        simp [NT, netV]
        simp (disch := omega) [hy, w64]
        repeat (refine And.intro (by omega) ?_)
        refine CodeJ.draw (.qs [0, 1, 2, 3, 4] <| .q 5 [3] <| .qs [6, 7, 8, 9] <| .l 10 [3] <| .l 11 [4] <| .nil) (by kernel_rfl) (by kernel_rfl) (by simp) ?_
        simp (disch := omega) [w64]
        repeat (refine And.intro (by omega) ?_)
        refine ⟨k + 1, by omega, by omega, Le.syn ?_⟩
        simp (disch := omega) [leS, hC, e1, e2]
    · obtain rfl : k = c.vars.length := by omega
      refine CodeJ.frz 3 rfl (by simp) ?_
      simp [frzS, tset]
      refine CodeJ.frz 4 rfl (by simp) ?_
      simp [frzS, tset]
      refine CodeJ.go ?_
      obtain ⟨w, ew, hw, lw, w12, w0, wb⟩ := hL'.nat hc hlt
      have bS := lowS_bd (i := i) bd c.vars.length (by omega)
      have pm : ∀ v, May c L' i v ↔ lowS c L' i c.vars.length ≤ c.limit - gt c.nums i * v ∧ c.limit - gt c.nums i * v ≤ highS c L' i c.vars.length := fun v => by unfold May; rw [if_neg (by omega), if_pos k2]
      rw [ew]
      generalize lowS c L' i c.vars.length = lo at *
      generalize highS c L' i c.vars.length = hg at *
      have sm := hs.may hc hL.len hL.asc ne hlt (sumB (gt c.nums i) c.limit lo hg) fun v _ => by
        rw [pm]; simp only [sumB, Bool.and_eq_true, decide_eq_true_eq]; omega
      rw [ew, lw, Int.toNat_natCast] at sm
      obtain ⟨L2, b2, e2, eb, l2, hs2, w2, z2, n2⟩ := sofar_two hw ne sm
      have gk := nKeep_ok p L' w hw w12 [] 114 [.rop (conV c) 0, .rop (iv i) 0, .rop (iv hg) 0, .rop (iv lo) 0] (.inl ⟨rfl, fun σ => by simp⟩) (fun n _ => by simp) (by simp) (sumB (gt c.nums i) c.limit lo hg) (fun v hv => eff_of_pure (sum1_ok c i (by omega) lo hg v (hc.nu i (by omega)) (wb v hv) bl (by omega) (by omega)) (by simp) _)
      rw [e2, eb, List.append_nil, List.append_nil] at gk
      simp
      refine callT gk [0, 1] (by simp []) (by simp [NT, netV]) (by simp) (by simp [NT, netV]) (by simp []) ?_
      rintro T y ⟨rfl, rfl⟩
      have hw2 : w < L2.length := by omega
      have lv := lget_ilv hw2
      simp [NT, netV]
      refine ⟨fun q => ?_, fun q => ?_⟩
      all_goals
        simp (disch := omega) [hw2, lv]
        repeat (refine And.intro (by omega) ?_)
        refine ⟨fun z => ?_, fun z => ?_⟩
        · rw [z2 (by simpa using z), Bool.true_or] at hs2
          exact ⟨_, _, ⟨L2, true, rfl, rfl, hs2.stop rfl⟩, rfl, by simp [NT, netV, leM], by simp [NT, netV], .inr ⟨by simp, by simp [ltM, NT, netV]⟩⟩
        · exact ⟨⟨i + 1, b2 || ag, L2⟩, ⟨hlt, hs2, n2 (List.length_pos_iff.2 (by simpa using z))⟩, Nat.sub_succ_lt_self _ _ hlt, by simp (disch := omega) [leS, hC, w64, q]⟩
  · obtain rfl : i = c.vars.length := by omega
    simp only [NT, netV]
    simp
    exact ⟨_, _, ⟨L', ag, rfl, rfl, hs.rule fun j hj => hj⟩, rfl, by simp [NT, netV], by simp [NT, netV], .inl rfl⟩
end Go.Proofs
namespace Go.Fn
open Go Go.Sv Go.Pl Go.Proofs Go.Tb Go.Ut
def LvT (c : Con) (r : List Int) (k t : Nat) : Prop := ∀ t', t' < t → gt c.vars t' ≠ gt c.vars k ∨ gt r t' = gt r k
def LvP (c : Con) (L : Lf) (r : List Int) (k : Nat) : Prop := ∀ k', k' < k → gt r k' ∈ lk c L k' ∧ LvT c r k' c.vars.length
theorem lvP_succ {c : Con} {L : Lf} {r : List Int} {k : Nat} : LvP c L r (k + 1) ↔ (LvP c L r k ∧ gt r k ∈ lk c L k) ∧ LvT c r k c.vars.length := by
  constructor
  · exact fun h => ⟨⟨fun k' hk => h k' (by omega), (h k (by omega)).1⟩, (h k (by omega)).2⟩
  · rintro ⟨⟨h2, h3⟩, h4⟩ k' hk
    by_cases e : k' = k
    · subst e; exact ⟨h3, h4⟩
    · exact h2 k' (by omega)
theorem lvT_succ {c : Con} {r : List Int} {k t : Nat} : LvT c r k (t + 1) ↔ LvT c r k t ∧ (gt c.vars t ≠ gt c.vars k ∨ gt r t = gt r k) := by
  constructor
  · exact fun h => ⟨fun t' ht => h t' (by omega), h t (by omega)⟩
  · rintro ⟨h1, h2⟩ t' ht
    by_cases e : t' = t
    · subst e; exact h2
    · exact h1 t' (by omega)
theorem liveB_iff {c : Con} {L : Lf} {r : List Int} : liveB c L r = true ↔ LvP c L r c.vars.length := by
  simp only [liveB, List.all_eq_true, List.mem_range, Bool.and_eq_true, decide_eq_true_eq, LvP, LvT]
structure LW where
  q : Nat
  w : List (List Int)
structure LB where
  k : Nat
  b : Bool
def rowB (i : Nat) (v : Int) (r : List Int) : Bool := decide (gt r i = v)
end Go.Fn
namespace Go.Proofs
open Go.Sv Go Go.Tb Go.Pl Go.Ut Go.Fn
set_option maxRecDepth 10000 in
theorem table11_ok (r : List Int) (i : Nat) (hi : i < r.length) (v : Int) : PureF Tryd.prog 118 [ilv r, .rop (iv i) 0, .rop (iv v) 0] (bov (rowB i v r)) := by
  have lr := lget_iv hi
  refine pure_enter Tryd.func118 rfl (by simp) (fun C hC => ?_)
  simp
  refine CodeJ.draw (.qs [0, 1, 2, 3, 4, 5, 6] <| .nil) (by kernel_rfl) (by kernel_rfl) (by simp) ?_
  simp (disch := omega) [hi, lr, rowB]
  repeat (refine And.intro (by omega) ?_)
set_option maxRecDepth 10000 in
theorem table1_ok (w : List (List Int)) (hw : w.length ≤ 1000000) (i : Nat) (hi : ∀ r ∈ w, i < r.length) (v : Int) : PureF Tryd.prog 117 [iv v, .rop (.ro (w.map ilv)) 0, .rop (iv i) 0] (bov (w.any (rowB i v))) := by
  have g := slAny_ok w hw 118 [.rop (iv i) 0, .rop (iv v) 0] (by simp) (by simp) (rowB i v) (fun r hr => table11_ok r i (hi r hr) v)
  generalize w.any (rowB i v) = b at *
  refine pure_enter Tryd.func117 rfl (by simp) (fun C hC => ?_)
  simp
  refine callFz 0 rfl (by simp) ?_
  simp
  refine callS (g) (by simp) ?_
  simp
set_option maxRecDepth 10000 in
set_option maxHeartbeats 2000000 in
theorem nTable_ok {p : Puz} {n : Nat} {c : Con} (hc : ConOK n c) (hf : FewC c) (k3 : c.kind = 3) {L : Lf} (hL : LOK n L) : EffC Tryd.prog 116 [.ptr 0 0 0, conV c] (NT p L) [] (RulQ p c L) := by
  have h8 := hc.vl
  have hr := hf.r
  refine eff_enterC Tryd.func116 rfl (by simp) (fun C hC => ?_)
  have hC : C.fx = [0, 1] := hC
  simp only [NT, netV]
  refine CodeJ.seqI (CodeJ.regionI (OpsJ.go ?_))
  simp
  refine CodeJ.frz 2 rfl (by simp) ?_
  simp [frzS, tset]
  refine CodeJ.seqI (CodeJ.regionI (OpsJ.go ?_))
  simp
  refine CodeJ.le (Le.nilCell1 3 1 rfl rfl rfl) ?_
  simp [tset]
  refine CodeJ.cutAt 1 (fun st => st = ⟨93, [(0, .ptr 0 0 0), (3, .rop (conV c) 0), (5, .ptr 3 0 0)], NT p L ++ [none, some ⟨1, [.view 4 0 (c.rows.filter (liveB c L)).length], false⟩, some ⟨1, (c.rows.filter (liveB c L)).map ilv, false⟩]⟩) ?_ ?_
  · simp only [takeC_succ, takeC_zero]
    simp
    refine CodeJ.loop (ι := LW) (fun ⟨q, w⟩ => ⟨93, [(0, .ptr 0 0 0), (3, .rop (conV c) 0), (5, .ptr 3 0 0), (17, .ro (c.rows.map ilv)), (18, iv c.rows.length), (19, iv q)], NT p L ++ [none, some ⟨1, [.view 4 0 w.length], false⟩, some ⟨1, w.map ilv, false⟩]⟩)
      (fun ⟨q, w⟩ => q ≤ c.rows.length ∧ w = (c.rows.take q).filter (liveB c L)) (fun ⟨q, w⟩ => c.rows.length - q) ⟨0, []⟩ ?_ ?_ ?_
    · simp
    · simp [leS, hC, NT, netV]
    rintro ⟨q, w⟩ ⟨hq, hw⟩
    simp only [NT, netV, List.cons_append, List.nil_append]
    by_cases hlt : q < c.rows.length
    · have lr := lget_ilv hlt
      have rl := hc.k3 k3 _ (gt_mem hlt)
      have wl : w.length ≤ 12 := by
        have := List.length_filter_le (liveB c L) (c.rows.take q)
        rw [← hw] at this
        simp at this; omega
      have ft : (c.rows.take (q + 1)).filter (liveB c L) = if liveB c L (gt c.rows q) = true then w ++ [gt c.rows q] else w := by
        rw [take_gt hlt, List.filter_append, ← hw]
        by_cases e : liveB c L (gt c.rows q) = true <;> simp [e]
      generalize gt c.rows q = r at *
      have lk' := fun (k : Nat) (hk : k < c.vars.length) => lget_iv (l := r) (i := k) (by omega)
      simp (disch := omega) [hlt, lr]
      repeat (refine And.intro (by omega) ?_)
      refine CodeJ.loop (ι := LB) (fun ⟨k, b⟩ => ⟨93, [(0, .ptr 0 0 0), (3, .rop (conV c) 0), (5, .ptr 3 0 0), (7, ilv r), (8, bov b), (17, .ro (c.rows.map ilv)), (18, iv c.rows.length), (19, iv q), (24, ilv c.vars), (25, iv c.vars.length), (26, iv k)], NT p L ++ [none, some ⟨1, [.view 4 0 w.length], false⟩, some ⟨1, w.map ilv, false⟩]⟩)
        (fun ⟨k, b⟩ => k ≤ c.vars.length ∧ (b = true ↔ LvP c L r k)) (fun ⟨k, b⟩ => c.vars.length - k) ⟨0, true⟩ ?_ ?_ ?_
      · exact ⟨Nat.zero_le _, fun _ k hk => by omega, fun _ => rfl⟩
      · simp [leS, hC, NT, netV]
      rintro ⟨k, b⟩ ⟨hk, hb⟩
      simp only [NT, netV, List.cons_append, List.nil_append]
      by_cases hkl : k < c.vars.length
      · obtain ⟨u, ew, hw', lw, w12, w0, wb⟩ := hL.nat hc hkl
        have lu := lget_ilv hw'
        have vk := lget_iv (l := c.vars) hkl
        have rk := lk' k hkl
        have hkr : k < r.length := by omega
        have g := slContains_ok (gt L u) (by omega) (gt r k)
        have sc := @lvP_succ c L r k
        rw [lw] at sc
        have vk' := vk
        rw [ew] at vk'
        obtain ⟨b1, hb1⟩ : ∃ b1 : Bool, b1 = decide (gt r k ∈ gt L u) := ⟨_, rfl⟩
        have hb1' : b1 = true ↔ gt r k ∈ gt L u := by rw [hb1, decide_eq_true_eq]
        rw [← hb1] at g
        obtain ⟨b2, hb2⟩ : ∃ b2 : Bool, b2 = (b && b1) := ⟨_, rfl⟩
        have hb2' : b2 = true ↔ LvP c L r k ∧ gt r k ∈ gt L u := by rw [hb2, Bool.and_eq_true, hb, hb1']
        simp (disch := omega) [hkl, vk']
        repeat (refine And.intro (by omega) ?_)
        refine CodeJ.draw (.qs [0, 1, 2, 3, 4, 5, 6, 7, 8, 9, 10, 11, 12] <| .l 13 [] <| .qs [14, 15] <| .nil) (by kernel_rfl) (by kernel_rfl) (by simp) ?_
        cases b
        all_goals
          simp (disch := omega) [hw', lu, rk, hkr]
          repeat (refine And.intro (by omega) ?_)
          try (refine callS g (by simp) ?_; simp)
          refine CodeJ.loop (ι := LB) (fun ⟨t, b⟩ => ⟨93, [(0, .ptr 0 0 0), (3, .rop (conV c) 0), (5, .ptr 3 0 0), (7, ilv r), (8, bov b), (9, iv k), (10, iv u), (17, .ro (c.rows.map ilv)), (18, iv c.rows.length), (19, iv q), (24, ilv c.vars), (25, iv c.vars.length), (26, iv k), (47, ilv c.vars), (48, iv c.vars.length), (49, iv t)], NT p L ++ [none, some ⟨1, [.view 4 0 w.length], false⟩, some ⟨1, w.map ilv, false⟩]⟩)
            (fun ⟨t, b⟩ => t ≤ c.vars.length ∧ (b = true ↔ (LvP c L r k ∧ gt r k ∈ gt L u) ∧ LvT c r k t)) (fun ⟨t, b⟩ => c.vars.length - t) ⟨0, b2⟩ ?_ ?_ ?_
          · exact ⟨Nat.zero_le _, hb2'.trans ⟨fun h => ⟨h, fun t ht => by omega⟩, fun h => h.1⟩⟩
          · simp [leS, hC, hb2, NT, netV]
          rintro ⟨t, b⟩ ⟨ht, hbt⟩
          simp only [NT, netV, List.cons_append, List.nil_append]
          by_cases htl : t < c.vars.length
          · have vt := lget_iv (l := c.vars) htl
            have rt := lk' t htl
            have e2 : t < r.length := by omega
            have st := @lvT_succ c r k t
            simp (disch := omega) [htl, vt]
            repeat (refine And.intro (by omega) ?_)
            refine CodeJ.draw (.qs [0, 1, 2, 3, 4, 5, 6, 7, 8, 9, 10, 11, 12, 13, 14, 15, 16, 17] <| .nil) (by kernel_rfl) (by kernel_rfl) (by simp) ?_
            cases b with
            | true =>
              have hbt' := hbt.1 rfl
              by_cases e : gt c.vars t = (u : Int)
              · simp (disch := omega) [rt, rk, e2, hkr, e]
                repeat (refine And.intro (by omega) ?_)
                refine ⟨⟨t + 1, decide (gt r t = gt r k)⟩, ⟨htl, ?_⟩, Nat.sub_succ_lt_self _ _ htl, by simp (disch := omega) [leS, hC, w64]⟩
                rw [decide_eq_true_eq, st, ew]
                exact ⟨fun z => ⟨hbt'.1, hbt'.2, .inr z⟩, fun z => z.2.2.resolve_left fun z => z e⟩
              · simp (disch := omega) [e]
                repeat (refine And.intro (by omega) ?_)
                exact ⟨⟨t + 1, true⟩, ⟨htl, fun _ => ⟨hbt'.1, st.2 ⟨hbt'.2, .inl (by rw [ew]; exact e)⟩⟩, fun _ => rfl⟩, Nat.sub_succ_lt_self _ _ htl, by simp (disch := omega) [leS, hC, w64]⟩
            | false =>
              simp (disch := omega) []
              repeat (refine And.intro (by omega) ?_)
              exact ⟨⟨t + 1, false⟩, ⟨htl, fun z => (by cases z), fun z => hbt.2 ⟨z.1, (st.1 z.2).1⟩⟩, Nat.sub_succ_lt_self _ _ htl, by simp (disch := omega) [leS, hC, w64]⟩
          · obtain rfl : t = c.vars.length := by omega
            simp
            exact ⟨⟨k + 1, b⟩, ⟨hkl, hbt.trans sc.symm⟩, Nat.sub_succ_lt_self _ _ hkl, by simp (disch := omega) [leS, hC, w64]⟩
      · obtain rfl : k = c.vars.length := by omega
        rw [← liveB_iff] at hb
        simp
        refine ⟨fun z => ?_, fun z => ?_⟩
        · rw [if_pos (hb.1 z)] at ft
          exact ⟨⟨by simp [hC], by omega⟩, ⟨q + 1, w ++ [r]⟩, ⟨hlt, ft.symm⟩, Nat.sub_succ_lt_self _ _ hlt, by simp (disch := omega) [leS, hC, w64]⟩
        · rw [if_neg (fun h => by rw [hb.2 h] at z; cases z)] at ft
          exact ⟨⟨q + 1, w⟩, ⟨hlt, ft.symm⟩, Nat.sub_succ_lt_self _ _ hlt, by simp (disch := omega) [leS, hC, w64]⟩
    · obtain rfl : q = c.rows.length := by omega
      rw [List.take_length] at hw
      subst hw
      simp
      exact ⟨rfl, by simp [leF, Go.Sv.get], leM_self _, .inl rfl⟩
  rintro st rfl
  simp only [dropC_succ, dropC_zero, NT, netV, List.cons_append, List.nil_append]
  have wl : (c.rows.filter (liveB c L)).length ≤ 12 := Nat.le_trans (List.length_filter_le _ _) hr
  have wr : ∀ r ∈ c.rows.filter (liveB c L), r.length = c.vars.length := fun r h => hc.k3 k3 r (List.mem_filter.1 h).1
  have pm : ∀ i v, (c.rows.filter (liveB c L)).any (rowB i v) = true ↔ May c L i v := fun i v => by
    unfold May
    rw [if_neg (by omega), if_neg (by omega), if_pos k3, rowM_iff]
    simp only [List.any_eq_true, List.mem_filter, rowB, decide_eq_true_eq]
    exact ⟨fun ⟨r, h1, h2⟩ => ⟨r, h1.1, h1.2, h2⟩, fun ⟨r, h1, h2, h3⟩ => ⟨r, ⟨h1, h2⟩, h3⟩⟩
  generalize c.rows.filter (liveB c L) = ws at *
  refine CodeJ.frz 4 rfl (by simp) ?_
  simp [frzS, tset]
  refine CodeJ.frz 3 rfl (by simp) ?_
  simp [frzS, tset]
  refine CodeJ.go ?_
  simp
  refine CodeJ.loop (ι := LI) (fun ⟨i, ag, L'⟩ => ⟨93, [(0, .ptr 0 0 0), (3, .rop (conV c) 0), (5, .rop (.ro (ws.map ilv)) 0), (13, bov ag), (80, ilv c.vars), (81, iv c.vars.length), (82, iv i)], NT p L'⟩)
    (fun ⟨i, ag, L'⟩ => i ≤ c.vars.length ∧ Sofar c L L' ag (fun j => j < i)) (fun ⟨i, ag, L'⟩ => c.vars.length - i) ⟨0, false, L⟩ ?_ ?_ ?_
  · exact ⟨Nat.zero_le _, sofar_0 c L⟩
  · simp [leS, hC, NT, netV]
  rintro ⟨i, ag, L'⟩ ⟨hi, hs⟩
  simp only [NT, netV]
  by_cases hlt : i < c.vars.length
  · obtain ⟨u, ew, hw, lw, w12, w0, wb⟩ := hL.nat hc hlt
    have vi := lget_iv (l := c.vars) hlt
    rw [ew] at vi
    have hw' : u < L'.length := by rw [hs.len]; exact hw
    have w12' : (gt L' u).length ≤ 12 := Nat.le_trans (hs.cut.sub u hw).length_le w12
    have sm := hs.mayO hc hL.len hL.asc hlt (fun v => ws.any (rowB i v)) fun v _ => pm i v
    have lw' : lk c L' i = gt L' u := by unfold lk; rw [ew, Int.toNat_natCast]
    rw [ew, lw', Int.toNat_natCast] at sm
    have gk := nKeep_ok p L' u hw' w12' [] 117 [.rop (.ro (ws.map ilv)) 0, .rop (iv i) 0] (.inl ⟨rfl, fun σ => by simp⟩) (fun n _ => by simp) (by simp) (fun v => ws.any (rowB i v)) (fun v hv => eff_of_pure (table1_ok ws (by omega) i (fun r hr => by rw [wr r hr]; exact hlt) v) (by simp) _)
    obtain ⟨L2, e2⟩ : ∃ L2, L'.set u ((gt L' u).filter fun v => ws.any (rowB i v)) = L2 := ⟨_, rfl⟩
    obtain ⟨b2, eb⟩ : ∃ b2, decide (((gt L' u).filter fun v => ws.any (rowB i v)).length < (gt L' u).length) = b2 := ⟨_, rfl⟩
    rw [e2, eb] at sm
    rw [e2, eb, List.append_nil, List.append_nil] at gk
    simp (disch := omega) [hlt, vi]
    repeat (refine And.intro (by omega) ?_)
    refine callFz 2 rfl (by simp) ?_
    simp
    refine callT gk [0, 1] (by simp []) (by simp [NT, netV]) (by simp) (by simp [NT, netV]) (by simp []) ?_
    rintro T y ⟨rfl, rfl⟩
    simp [NT, netV]
    refine ⟨fun q => ?_, fun q => ?_⟩
    all_goals
      exact ⟨⟨i + 1, b2 || ag, L2⟩, ⟨hlt, sm⟩, Nat.sub_succ_lt_self _ _ hlt, by simp (disch := omega) [leS, hC, w64, q]⟩
  · obtain rfl : i = c.vars.length := by omega
    simp
    exact ⟨_, _, ⟨L', ag, rfl, rfl, hs.rule fun j hj => hj⟩, rfl, by simp [NT, netV], by simp [NT, netV], .inl rfl⟩
end Go.Proofs
namespace Go.Sv
@[simp] theorem okC_mf {st : St} {f : Go.Fn} {x y : Array Operand} : okC st (.makeFunc f x y) = True := rfl
end Go.Sv
namespace Go.Fn
open Go Go.Sv Go.Pl Go.Proofs Go.Tb Go.Ut
def inB (l : List Int) (v : Int) : Bool := decide (v ∈ l)
/-- a place's number: may it be this one? -/
def elB1 (L : Lf) (vs : List Int) (s : Nat) (v : Int) : Bool := decide (0 ≤ v) && decide (v < vs.length) && (gt L (gt vs v.toNat).toNat).any (inB (gt L s))
/-- a value: is it at a place that may be? -/
def elB2 (L : Lf) (vs : List Int) (a : Nat) (v : Int) : Bool := (gt L a).any fun i => inB (gt L (gt vs i.toNat).toNat) v
end Go.Fn
namespace Go.Proofs
open Go.Sv Go Go.Tb Go.Pl Go.Ut Go.Fn
set_option maxRecDepth 10000 in
/-- of numbers: does a function that reads the net say yes of one? -/
theorem slAnyN_ok (p : Puz) (L : Lf) (l : List Int) (hl : l.length ≤ 1000000) (F : FuncId) (caps : List SV) (hren : ∀ σ : Nat → Nat, σ 0 = 0 → σ 1 = 1 → σ 2 = 2 → renL σ caps = caps) (hlt : ∀ n, 3 ≤ n → SV.ltL n caps = true) (hF : callOK Tryd.prog F) (q : Int → Bool)
    (g : ∀ v ∈ l, EffC Tryd.prog F (iv v :: caps) (NT p L ++ [nC]) [] (fun T y => T = NT p L ++ [nC] ∧ y = bov (q v))) :
    EffC Tryd.prog 122 [.ro (l.map iv), .fnv F [] caps] (NT p L ++ [nC]) [] (fun T y => T = NT p L ++ [nC] ∧ y = bov (l.any q)) := by
  have hu : SV.usesL 3 caps = false := SV.ltL_uses (Nat.le_refl 3) _ (hlt 3 (Nat.le_refl 3))
  have h3 := hlt 3 (Nat.le_refl 3)
  obtain ⟨b, hb⟩ : ∃ b, l.any q = b := ⟨_, rfl⟩
  rw [hb]
  have gi : EffC Tryd.prog 108 [.ro (l.map iv), .fnv F [] caps] (NT p L ++ [nC]) [] (fun T y => T = NT p L ++ [nC] ∧ ∃ n : Int, y = iv n ∧ (0 ≤ n ↔ b = true)) := by
    refine eff_enterC Tryd.func108 rfl (by simp) (fun C hC => ?_)
    have hC : C.fx = [0, 1, 2] := hC
    refine CodeJ.go ?_
    simp
    refine CodeJ.loop (ι := Nat) (fun i => ⟨19, [(0, .ro (l.map iv)), (1, .fnv F [] caps), (7, iv l.length), (8, iv i)], NT p L ++ [nC]⟩)
      (fun i => i ≤ l.length ∧ ∀ j, j < i → q (gt l j) = false) (fun i => l.length - i) 0 ?_ ?_ ?_
    · exact ⟨by omega, fun j hj => by omega⟩
    · simp [leS, hC]
    rintro i ⟨hi, hf⟩
    by_cases hlt' : i < l.length
    · have gg := g _ (gt_mem hlt')
      have yes : q (gt l i) = true → b = true := fun h => by rw [← hb]; exact List.any_eq_true.2 ⟨_, gt_mem hlt', h⟩
      have st := @step_lt (fun j => q (gt l j) = false) i hf
      have lv := lget_iv hlt'
      generalize gt l i = r at *
      simp (disch := omega) [hlt', lv, hF]
      repeat (refine And.intro (by omega) ?_)
      refine callT gg [0, 1, 2] (by simp []) (by simp [NT, netV, nC]) (by simp [hren (sg [0, 1, 2] 3) rfl rfl rfl, NT, netV, nC]) (by simp [NT, netV, nC]) (by simp []) ?_
      rintro T y ⟨rfl, rfl⟩
      simp [NT, netV, nC]
      refine ⟨fun e => ?_, fun e => ?_⟩
      · exact ⟨_, _, ⟨rfl, i, rfl, ⟨fun _ => yes e, fun _ => by omega⟩⟩, rfl, by simp [leM], by simp, .inl rfl⟩
      · exact ⟨i + 1, ⟨by omega, st e⟩, by omega, by simp (disch := omega) [leS, hC, w64]⟩
    · obtain rfl : i = l.length := by omega
      simp
      refine ⟨_, _, ⟨rfl, -1, rfl, ⟨fun h => by omega, fun h => ?_⟩⟩, rfl, by simp [NT, netV, nC], by simp [NT, netV, nC], .inl rfl⟩
      rw [← hb, List.any_eq_true] at h
      obtain ⟨r, hr, h⟩ := h
      obtain ⟨j, hj, rfl⟩ := mem_gt hr
      rw [hf j hj] at h; cases h
  refine eff_enterC Tryd.func122 rfl (by simp) (fun C hC => ?_)
  have hC : C.fx = [0, 1, 2] := hC
  refine CodeJ.go ?_
  simp
  refine callT gi [0, 1, 2] (by simp []) (by simp [NT, netV, nC]) (by simp [hren (sg [0, 1, 2] 3) rfl rfl rfl, NT, netV, nC]) (by simp [NT, netV, nC]) (by simp []) ?_
  rintro T y ⟨rfl, n, rfl, hn⟩
  simp [NT, netV, nC]
  exact ⟨_, _, ⟨rfl, rfl⟩, by simp [hn], by simp [leM], by simp, .inl rfl⟩
set_option maxRecDepth 10000 in
theorem hel11_ok (p : Puz) (L : Lf) (s : Nat) (hs : s < L.length) (h12 : (gt L s).length ≤ 12) (u : Int) : EffC Tryd.prog 123 [iv u, .ptr 2 0 0, .rop (iv s) 0] (NT p L ++ [nC]) [] (fun T y => T = NT p L ++ [nC] ∧ y = bov (inB (gt L s) u)) := by
  have lv := lget_ilv hs
  have g := slContains_ok (gt L s) (by omega) u
  refine eff_enterC Tryd.func123 rfl (by simp) (fun C hC => ?_)
  have hC : C.fx = [0, 1, 2] := hC
  refine CodeJ.go ?_
  simp only [NT, netV, nC, List.cons_append, List.nil_append]
  simp
  refine CodeJ.draw (.qs [0, 1, 2, 3, 4, 5, 6, 7] <| .l 8 [] <| .qs [9] <| .nil) (by kernel_rfl) (by kernel_rfl) (by simp) ?_
  simp (disch := omega) [hs, lv]
  repeat (refine And.intro (by omega) ?_)
  refine callS (g) (by simp) ?_
  simp
  exact ⟨_, _, ⟨rfl, rfl⟩, rfl, by simp [leM], by simp, .inl rfl⟩
theorem hel3_ok (p : Puz) (L : Lf) (s : Nat) (hs : s < L.length) (h12 : (gt L s).length ≤ 12) (u : Int) : EffC Tryd.prog 126 [iv u, .ptr 2 0 0, .rop (iv s) 0] (NT p L ++ [nC]) [] (fun T y => T = NT p L ++ [nC] ∧ y = bov (inB (gt L s) u)) := by
  have lv := lget_ilv hs
  have g := slContains_ok (gt L s) (by omega) u
  refine eff_enterC Tryd.func126 rfl (by simp) (fun C hC => ?_)
  have hC : C.fx = [0, 1, 2] := hC
  refine CodeJ.go ?_
  simp only [NT, netV, nC, List.cons_append, List.nil_append]
  simp
  refine CodeJ.draw (.qs [0, 1, 2, 3, 4, 5, 6, 7] <| .l 8 [] <| .qs [9] <| .nil) (by kernel_rfl) (by kernel_rfl) (by simp) ?_
  simp (disch := omega) [hs, lv]
  repeat (refine And.intro (by omega) ?_)
  refine callS (g) (by simp) ?_
  simp
  exact ⟨_, _, ⟨rfl, rfl⟩, rfl, by simp [leM], by simp, .inl rfl⟩
set_option maxRecDepth 10000 in
theorem hel1_ok (p : Puz) (L : Lf) (vs : List Int) (hv : vs.length ≤ 8) (hvs : ∀ k, k < vs.length → 0 ≤ gt vs k ∧ gt vs k < L.length) (l12 : ∀ k, k < L.length → (gt L k).length ≤ 12) (s : Nat) (hs : s < L.length) (v : Int) :
    EffC Tryd.prog 121 [iv v, .rop (.ro (vs.map iv)) 0, .ptr 2 0 0, .rop (iv s) 0] (NT p L ++ [nC]) [] (fun T y => T = NT p L ++ [nC] ∧ y = bov (elB1 L vs s v)) := by
  refine eff_enterC Tryd.func121 rfl (by simp) (fun C hC => ?_)
  have hC : C.fx = [0, 1, 2] := hC
  refine CodeJ.go ?_
  simp only [NT, netV, nC, List.cons_append, List.nil_append]
  simp
  refine CodeJ.draw (.qs [0, 1, 2, 3, 4, 5, 6, 7, 8, 9, 10, 11, 12, 13, 14, 15, 16, 17, 18, 19] <| .l 20 [0, 1, 2] <| .qs [21, 22] <| .nil) (by kernel_rfl) (by kernel_rfl) (by simp) ?_
  by_cases h1 : 0 ≤ v
  · by_cases h2 : v < vs.length
    · obtain ⟨k, rfl⟩ : ∃ k : Nat, v = (k : Int) := ⟨v.toNat, by omega⟩
      have hk : k < vs.length := by omega
      obtain ⟨d1, d2⟩ := hvs k hk
      have lk' := lget_iv hk
      have eq : elB1 L vs s (k : Int) = (gt L (gt vs k).toNat).any (inB (gt L s)) := by simp [elB1, h1, h2]
      rw [eq]
      obtain ⟨u, eu⟩ : ∃ u : Nat, gt vs k = (u : Int) := ⟨(gt vs k).toNat, by omega⟩
      rw [eu] at d2 lk'
      rw [eu, Int.toNat_natCast]
      have hu : u < L.length := by omega
      have lv := lget_ilv hu
      have g := slAnyN_ok p L (gt L u) (by have := l12 u hu; omega) 123 [.ptr 2 0 0, .rop (iv s) 0] (fun σ h0 h1 h2 => by simp [h2]) (fun n hn => by simp; omega) (by simp) (inB (gt L s)) (fun w _ => hel11_ok p L s hs (l12 s hs) w)
      generalize (gt L u).any (inB (gt L s)) = b at *
      simp (disch := omega) [h1, h2, lk', hu, lv]
      repeat (refine And.intro (by omega) ?_)
      refine callT g [0, 1, 2] (by simp []) (by simp [NT, netV, nC]) (by simp) (by simp [NT, netV, nC]) (by simp []) ?_
      rintro T y ⟨rfl, rfl⟩
      simp [NT, netV, nC]
      exact ⟨_, _, ⟨rfl, rfl⟩, rfl, by simp [leM], by simp, .inl rfl⟩
    · have eq : elB1 L vs s v = false := by simp [elB1, h2]
      rw [eq]
      simp (disch := omega) [h1, h2]
      repeat (refine And.intro (by omega) ?_)
      exact ⟨_, _, ⟨rfl, rfl⟩, rfl, by simp [leM], by simp, .inl rfl⟩
  · have eq : elB1 L vs s v = false := by simp [elB1, h1]
    rw [eq]
    simp (disch := omega) [h1]
    repeat (refine And.intro (by omega) ?_)
    exact ⟨_, _, ⟨rfl, rfl⟩, rfl, by simp [leM], by simp, .inl rfl⟩
set_option maxRecDepth 10000 in
theorem hel21_ok (p : Puz) (L : Lf) (vs : List Int) (hv : vs.length ≤ 8) (hvs : ∀ k, k < vs.length → 0 ≤ gt vs k ∧ gt vs k < L.length) (l12 : ∀ k, k < L.length → (gt L k).length ≤ 12) (v i : Int) (h1 : 0 ≤ i) (h2 : i < vs.length) :
    EffC Tryd.prog 125 [iv i, .ptr 2 0 0, .rop (.ro (vs.map iv)) 0, .rop (iv v) 0] (NT p L ++ [nC]) [] (fun T y => T = NT p L ++ [nC] ∧ y = bov (inB (gt L (gt vs i.toNat).toNat) v)) := by
  obtain ⟨k, rfl⟩ : ∃ k : Nat, i = (k : Int) := ⟨i.toNat, by omega⟩
  have hk : k < vs.length := by omega
  obtain ⟨d1, d2⟩ := hvs k hk
  have lk' := lget_iv hk
  rw [Int.toNat_natCast]
  obtain ⟨u, eu⟩ : ∃ u : Nat, gt vs k = (u : Int) := ⟨(gt vs k).toNat, by omega⟩
  rw [eu] at d2 lk'
  rw [eu, Int.toNat_natCast]
  have hu : u < L.length := by omega
  have lv := lget_ilv hu
  have g := slContains_ok (gt L u) (by have := l12 u hu; omega) v
  refine eff_enterC Tryd.func125 rfl (by simp) (fun C hC => ?_)
  have hC : C.fx = [0, 1, 2] := hC
  refine CodeJ.go ?_
  simp only [NT, netV, nC, List.cons_append, List.nil_append]
  simp
  refine CodeJ.draw (.qs [0, 1, 2, 3, 4, 5, 6, 7, 8, 9, 10] <| .l 11 [] <| .qs [12] <| .nil) (by kernel_rfl) (by kernel_rfl) (by simp) ?_
  simp (disch := omega) [hk, lk', hu, lv]
  repeat (refine And.intro (by omega) ?_)
  refine callS (g) (by simp) ?_
  simp
  exact ⟨_, _, ⟨rfl, rfl⟩, rfl, by simp [leM], by simp, .inl rfl⟩
set_option maxRecDepth 10000 in
theorem hel2_ok (p : Puz) (L : Lf) (vs : List Int) (hv : vs.length ≤ 8) (hvs : ∀ k, k < vs.length → 0 ≤ gt vs k ∧ gt vs k < L.length) (l12 : ∀ k, k < L.length → (gt L k).length ≤ 12) (a : Nat) (ha : a < L.length) (hb : ∀ i ∈ gt L a, 0 ≤ i ∧ i < vs.length) (v : Int) :
    EffC Tryd.prog 124 [iv v, .ptr 2 0 0, .rop (iv a) 0, .rop (.ro (vs.map iv)) 0] (NT p L ++ [nC]) [] (fun T y => T = NT p L ++ [nC] ∧ y = bov (elB2 L vs a v)) := by
  have lv := lget_ilv ha
  have g := slAnyN_ok p L (gt L a) (by have := l12 a ha; omega) 125 [.ptr 2 0 0, .rop (.ro (vs.map iv)) 0, .rop (iv v) 0] (fun σ h0 h1 h2 => by simp [h2]) (fun n hn => by simp; omega) (by simp) (fun i => inB (gt L (gt vs i.toNat).toNat) v) (fun i hi => hel21_ok p L vs hv hvs l12 v i (hb i hi).1 (hb i hi).2)
  have e : elB2 L vs a v = (gt L a).any fun i => inB (gt L (gt vs i.toNat).toNat) v := rfl
  rw [← e] at g
  generalize elB2 L vs a v = b at *
  refine eff_enterC Tryd.func124 rfl (by simp) (fun C hC => ?_)
  have hC : C.fx = [0, 1, 2] := hC
  simp only [NT, netV, nC, List.cons_append, List.nil_append]
  refine CodeJ.seqI (CodeJ.regionI (OpsJ.go ?_))
  simp
  refine CodeJ.frz 3 rfl (by simp) ?_
  simp [frzS, tset]
  refine CodeJ.go ?_
  simp
  refine CodeJ.draw (.qs [0, 1, 2, 3, 4, 5, 6, 7] <| .l 8 [0, 1, 2] <| .qs [9] <| .nil) (by kernel_rfl) (by kernel_rfl) (by simp) ?_
  simp (disch := omega) [ha, lv]
  repeat (refine And.intro (by omega) ?_)
  refine callT g [0, 1, 2] (by simp []) (by simp [NT, netV, nC]) (by simp) (by simp [NT, netV, nC]) (by simp []) ?_
  rintro T y ⟨rfl, rfl⟩
  simp [NT, netV, nC]
  exact ⟨_, _, ⟨rfl, rfl⟩, rfl, by simp [leM], by simp, .inr ⟨by simp, by simp [ltM]⟩⟩
end Go.Proofs
namespace Go.Fn
open Go Go.Sv Go.Pl Go.Proofs Go.Tb Go.Ut
theorem gt_drop {l : List Int} {n k : Nat} (h : n + k < l.length) : gt (l.drop n) k = gt l (n + k) := by
  rw [← gt_get (show k < (l.drop n).length by simp; omega), ← gt_get h]
  simp
section
variable {n : Nat} {c : Con} {L L' : Lf} {ag : Bool}
theorem lk_vs {k : Nat} (hk : k < (c.vars.drop 2).length) : gt L (gt (c.vars.drop 2) k).toNat = lk c L (2 + k) := by
  unfold lk; rw [gt_drop (by simp at hk; omega)]
theorem may_4 (k4 : c.kind = 4) {i : Nat} {v : Int} : May c L i v ↔ PlcM c L i v := by
  unfold May; rw [if_neg (by omega), if_neg (by omega), if_neg (by omega), if_pos k4]
theorem el0 (k4 : c.kind = 4) {v : Int} : elB1 L (c.vars.drop 2) (gt c.vars 1).toNat v = true ↔ May c L 0 v := by
  rw [may_4 k4]
  unfold PlcM
  rw [if_pos rfl]
  simp only [elB1, Bool.and_eq_true, decide_eq_true_eq, List.any_eq_true, inB]
  by_cases h : 0 ≤ v ∧ v < (c.vars.drop 2).length
  · obtain ⟨h1, h2⟩ := h
    rw [lk_vs (show v.toNat < (c.vars.drop 2).length by omega)]
    simp at h2
    exact ⟨fun ⟨_, w, h3, h4⟩ => ⟨h1, by omega, w, h3, h4⟩, fun ⟨_, _, w, h3, h4⟩ => ⟨⟨h1, by simp; omega⟩, w, h3, h4⟩⟩
  · exact ⟨fun q => absurd q.1 h, fun q => absurd ⟨q.1, by have := q.2.1; simp; omega⟩ h⟩
theorem el1 (k4 : c.kind = 4) (hb : ∀ i ∈ lk c L 0, 0 ≤ i ∧ i < (c.vars.drop 2).length) {v : Int} : elB2 L (c.vars.drop 2) (gt c.vars 0).toNat v = true ↔ May c L 1 v := by
  rw [may_4 k4]
  unfold PlcM
  rw [if_neg (by omega), if_pos rfl]
  simp only [elB2, List.any_eq_true, inB, decide_eq_true_eq]
  constructor
  · rintro ⟨x, h1, h2⟩
    obtain ⟨b1, b2⟩ := hb x h1
    rw [lk_vs (show x.toNat < (c.vars.drop 2).length by omega)] at h2
    simp at b2
    exact ⟨x, h1, b1, by omega, h2⟩
  · rintro ⟨x, h1, _, _, h2⟩
    obtain ⟨b1, b2⟩ := hb x h1
    exact ⟨x, h1, by rw [lk_vs (show x.toNat < (c.vars.drop 2).length by omega)]; exact h2⟩
theorem el3 (k4 : c.kind = 4) (hs : Sofar c L L' ag (fun j => j < 1 + 1)) (h1 : (lk c L' 0).length ≠ 1) : Sofar c L L' ag (fun j => j < c.vars.length) := by
  refine hs.wid fun e j hj => ?_
  subst e
  by_cases q : j < 2
  · exact .inl q
  · refine .inr fun v _ => ?_
    rw [may_4 k4]
    unfold PlcM
    rw [if_neg (by omega), if_neg (by omega)]
    exact fun h => absurd (by rw [h]; rfl) h1
theorem el2 (k4 : c.kind = 4) (hc : ConOK n c) (hn : L.length = n) (hs : Sofar c L L' ag (fun j => j < 1 + 1)) {x : Int} (h1 : lk c L' 0 = [x]) (x0 : 0 ≤ x) (xl : x < (c.vars.drop 2).length) {u : Nat} (hu : gt c.vars (2 + x.toNat) = (u : Int)) :
    Sofar c L (L'.set u ((gt L' u).filter (inB (lk c L' 1)))) (decide (((gt L' u).filter (inB (lk c L' 1))).length < (gt L' u).length) || ag) (fun j => j < c.vars.length) := by
  have l2 := hc.k4 k4
  simp at xl
  have hx : 2 + x.toNat < c.vars.length := by omega
  have hu' : u < L.length := by have := hc.va _ hx; omega
  have lu : ∀ M : Lf, gt M u = lk c M (2 + x.toNat) := fun M => by unfold lk; rw [hu, Int.toNat_natCast]
  have hin : ∀ k, k < c.vars.length → (gt c.vars k).toNat < L'.length := fun k hk => by rw [hs.len, hn]; exact hc.at hk
  refine hs.keep hu' (inB (lk c L' 1)) (fun F af nf df cf v hv => ?_) (fun e hall j hj => ?_)
  · have hF : ∀ k, k < c.vars.length → (gt c.vars k).toNat < F.length := fun k hk => by rw [df.len]; exact hin k hk
    rw [lu] at hv
    have hm := cf _ hx v hv
    rw [may_4 k4] at hm
    unfold PlcM at hm
    rw [if_neg (by omega), if_neg (by omega)] at hm
    have h0 : lk c F 0 = [((2 + x.toNat : Nat) : Int) - 2] := by
      have sub : ∀ w ∈ lk c F 0, w = x := fun w hw => by
        have := df.mem _ (hin 0 (by omega)) w hw
        have e : gt L' (gt c.vars 0).toNat = [x] := h1
        rw [e] at this; simpa using this
      have ne := nf _ (hF 0 (by omega))
      have aas := af _ (hF 0 (by omega))
      have e : lk c F 0 = gt F (gt c.vars 0).toNat := rfl
      rw [← e] at ne aas
      match hl : lk c F 0, ne with
      | [w], _ =>
        have := sub w (by rw [hl]; simp)
        rw [this, show (((2 + x.toNat : Nat) : Int) - 2) = x by omega]
      | w :: y :: r, _ =>
        rw [hl] at aas
        have h2 := sub w (by rw [hl]; simp)
        have h3 := sub y (by rw [hl]; simp)
        have := (List.pairwise_cons.1 aas).1 y (by simp)
        omega
    exact decide_eq_true (df.mem _ (hin 1 (by omega)) v (hm h0))
  · by_cases q : j < 2
    · exact .inl q
    · refine .inr fun v hv => ?_
      rw [may_4 k4]
      unfold PlcM
      rw [if_neg (by omega), if_neg (by omega)]
      intro h
      subst e
      rw [h1] at h
      have ej : j = 2 + x.toNat := by simp at h; omega
      subst ej
      rw [← lu] at hv
      have := hall v hv
      exact of_decide_eq_true this
end
end Go.Fn
namespace Go.Proofs
open Go.Sv Go Go.Tb Go.Pl Go.Ut Go.Fn
set_option maxRecDepth 10000 in
set_option maxHeartbeats 2000000 in
theorem nElement_ok {p : Puz} {n : Nat} {c : Con} (hc : ConOK n c) (k4 : c.kind = 4) {L : Lf} (hL : LOK n L) : EffC Tryd.prog 120 [.ptr 0 0 0, conV c] (NT p L) [] (RulQ p c L) := by
  have h8 := hc.vl
  have l2 := hc.k4 k4
  have e0 : 0 < c.vars.length := by omega
  have e1 : 1 < c.vars.length := by omega
  obtain ⟨a, ea, ha, lka, a12, a0, ab⟩ := hL.nat hc e0
  obtain ⟨s, es, hs, lks, s12, s0, sb⟩ := hL.nat hc e1
  have v0 := lget_iv (l := c.vars) e0
  have v1 := lget_iv (l := c.vars) e1
  rw [ea] at v0
  rw [es] at v1
  obtain ⟨vs, evs⟩ : ∃ vs, c.vars.drop 2 = vs := ⟨_, rfl⟩
  have vsl : vs.length = c.vars.length - 2 := by rw [← evs]; simp
  have vsg : ∀ k, k < vs.length → gt vs k = gt c.vars (2 + k) := fun k hk => by rw [← evs, gt_drop (by omega)]
  have vse : List.drop 2 (List.map iv c.vars) = vs.map iv := by rw [← evs, List.map_drop]
  refine eff_enterC Tryd.func120 rfl (by simp) (fun C hC => ?_)
  have hC : C.fx = [0, 1] := hC
  simp only [NT, netV]
  refine CodeJ.seqI (CodeJ.regionI (OpsJ.go ?_))
  simp
  refine CodeJ.frz 3 rfl (by simp) ?_
  simp [frzS, tset]
  refine CodeJ.cutAt 1 (fun st => st = ⟨64, [(2, .ptr 2 0 0), (3, .rop (conV c) 0), (5, .ptr 4 0 0), (6, .ptr 5 0 0), (7, .ptr 6 0 0)], NT p L ++ [nC, none, some ⟨1, [iv a], false⟩, some ⟨1, [iv s], false⟩, some ⟨1, [.ro (vs.map iv)], false⟩]⟩) ?_ ?_
  · simp only [takeC_succ, takeC_zero]
    simp
    refine CodeJ.drawZ (.d 11 <| .d 12 <| .d 13 <| .qs [0, 1, 2, 3, 4] <| .q 5 [4] <| .qs [6] <| .q 7 [4] <| .qs [8] <| .q 9 [4, 5] <| .qs [10] <| .b (.l 14 [4] <| .l 15 [5] <| .l 16 [6] <| .nil)) (by kernel_rfl) (by kernel_rfl) (by simp) ?_
    simp (disch := omega) [e0, v0, v1, vse]
    repeat (refine And.intro (by omega) ?_)
    simp [leS, hC, NT, netV, nC]
  rintro st rfl
  simp only [dropC_succ, dropC_zero, NT, netV, nC, List.cons_append, List.nil_append]
  refine CodeJ.frz 4 rfl (by simp) ?_
  simp [frzS, tset]
  refine CodeJ.frz 5 rfl (by simp) ?_
  simp [frzS, tset]
  refine CodeJ.frz 6 rfl (by simp) ?_
  simp [frzS, tset]
  refine CodeJ.go ?_
  have hvs : ∀ M : Lf, M.length = L.length → ∀ k, k < vs.length → 0 ≤ gt vs k ∧ gt vs k < M.length := fun M hM k hk => by
    rw [vsg k hk, hM, hL.len]; exact hc.va _ (by omega)
  have b12 : ∀ (M : Lf) (ag : Bool) (D : Nat → Prop), Sofar c L M ag D → ∀ k, k < M.length → (gt M k).length ≤ 12 := fun M ag D h k hk => by
    have hk' : k < L.length := by rw [← h.len]; exact hk
    exact Nat.le_trans (h.cut.sub k hk').length_le (hL.l12 k (by rw [← hL.len]; exact hk'))
  have lk0 : ∀ M : Lf, lk c M 0 = gt M a := fun M => by unfold lk; rw [ea, Int.toNat_natCast]
  have lk1 : ∀ M : Lf, lk c M 1 = gt M s := fun M => by unfold lk; rw [es, Int.toNat_natCast]
  have q0 := fun (M : Lf) (v : Int) => @el0 c M k4 v
  have q1 := fun (M : Lf) (hb : _) (v : Int) => @el1 c M k4 hb v
  rw [evs] at q0 q1
  rw [es, Int.toNat_natCast] at q0
  rw [ea, Int.toNat_natCast] at q1
  -- which place
  have sm := (sofar_0 c L).may hc hL.len hL.asc hL.ne e0 (elB1 L vs s) fun v _ => q0 L v
  rw [ea, lk0, Int.toNat_natCast] at sm
  obtain ⟨L1, b1, f1, eb1, l1, hs1, w1, z1, n1⟩ := sofar_two ha hL.ne sm
  have g1 := nKeep_ok p L a ha a12 [nC] 121 [.rop (.ro (vs.map iv)) 0, .ptr 2 0 0, .rop (iv s) 0] (.inr ⟨rfl, fun σ h0 h1 h2 => by simp [h2]⟩) (fun n hn => by simp at hn; simp; omega) (by simp) (elB1 L vs s) (fun v hv => hel1_ok p L vs (by omega) (hvs L rfl) (b12 L _ _ (sofar_0 c L)) s hs v)
  have fb : ∀ i ∈ gt L1 a, 0 ≤ i ∧ i < vs.length := fun i hi => by
    rw [← f1, gt_setL ha, if_pos rfl] at hi
    have := (List.mem_filter.1 hi).2
    simp only [elB1, Bool.and_eq_true, decide_eq_true_eq] at this
    exact this.1
  rw [f1, eb1] at g1
  simp
  refine callT g1 [0, 1, 2] (by simp []) (by simp [NT, netV, nC]) (by simp) (by simp [NT, netV, nC]) (by simp []) ?_
  rintro T y ⟨rfl, rfl⟩
  have ha1 : a < L1.length := by omega
  have hs1' : s < L1.length := by omega
  have la1 := lget_ilv ha1
  simp [NT, netV, nC]
  refine CodeJ.draw (.qs [0, 1, 2, 3, 4, 5, 6, 7, 8] <| .nil) (by kernel_rfl) (by kernel_rfl) (by simp) ?_
  simp (disch := omega) [ha1, la1]
  repeat (refine And.intro (by omega) ?_)
  refine ⟨fun z => ?_, fun z => ?_⟩
  · rw [z1 (by simp [z]), Bool.true_or] at hs1
    exact ⟨_, _, ⟨L1, true, rfl, rfl, hs1.stop rfl⟩, rfl, by simp [NT, netV, leM], by simp [NT, netV], .inr ⟨by simp, by simp [ltM, NT, netV]⟩⟩
  have ne1 : NE L1 := n1 (List.length_pos_iff.2 z)
  -- which value
  have sm1 := Sofar.may (i := 1) hc hL.len hL.asc hs1 ne1 e1 (elB2 L1 vs a) fun v _ => q1 L1 (by rw [lk0]; exact fb) v
  rw [es, lk1, Int.toNat_natCast] at sm1
  obtain ⟨L2, b2, f2, eb2, l2', hs2, w2, z2, n2⟩ := sofar_two hs1' ne1 sm1
  have g2 := nKeep_ok p L1 s hs1' (b12 L1 _ _ hs1 s hs1') [nC] 124 [.ptr 2 0 0, .rop (iv a) 0, .rop (.ro (vs.map iv)) 0] (.inr ⟨rfl, fun σ h0 h1 h2 => by simp [h2]⟩) (fun n hn => by simp at hn; simp; omega) (by simp) (elB2 L1 vs a) (fun v hv => hel2_ok p L1 vs (by omega) (hvs L1 l1) (b12 L1 _ _ hs1) a ha1 fb v)
  have fb2 : ∀ i ∈ gt L2 a, 0 ≤ i ∧ i < vs.length := fun i hi => by
    rw [← f2, gt_setL ha1] at hi
    split at hi
    · rename_i e; rw [e] at hi; exact fb i (List.mem_filter.1 hi).1
    · exact fb i hi
  rw [f2, eb2] at g2
  refine callT g2 [0, 1, 2] (by simp []) (by simp [NT, netV, nC]) (by simp) (by simp [NT, netV, nC]) (by simp []) ?_
  rintro T y ⟨rfl, rfl⟩
  have ha2 : a < L2.length := by omega
  have hs2' : s < L2.length := by omega
  have la2 := lget_ilv ha2
  simp [NT, netV, nC]
  refine ⟨fun e2 => ?_, fun e2 => ?_⟩
  all_goals
    refine CodeJ.draw (.qs [0, 1, 2, 3, 4, 5, 6, 7, 8] <| .nil) (by kernel_rfl) (by kernel_rfl) (by simp) ?_
    by_cases q : (gt L2 a).length = 1
    · obtain ⟨x, ex⟩ := List.length_eq_one_iff.1 q
      obtain ⟨x0, xl⟩ := fb2 x (by rw [ex]; simp)
      obtain ⟨xk, exk⟩ : ∃ xk : Nat, x = (xk : Int) := ⟨x.toNat, by omega⟩
      have hxk : xk < vs.length := by omega
      have lx := lget_iv (l := vs) hxk
      have lx2 := lget_iv (l := gt L2 a) (i := 0) (by omega)
      have ex0 : gt (gt L2 a) 0 = (xk : Int) := by rw [ex, ← exk]; rfl
      rw [ex0] at lx2
      obtain ⟨u1, u2⟩ := hvs L2 (by omega) xk hxk
      obtain ⟨u, eu⟩ : ∃ u : Nat, gt vs xk = (u : Int) := ⟨(gt vs xk).toNat, by omega⟩
      have hu : u < L2.length := by omega
      have hs3 := el2 k4 hc hL.len hs2 (x := x) (by rw [lk0, ex]) x0 (by rw [evs]; exact xl) (u := u) (by rw [← eu, vsg xk hxk, exk, Int.toNat_natCast])
      rw [lk1] at hs3
      have g3 := nKeep_ok p L2 u hu (b12 L2 _ _ hs2 u hu) [nC] 126 [.ptr 2 0 0, .rop (iv s) 0] (.inr ⟨rfl, fun σ h0 h1 h2 => by simp [h2]⟩) (fun n hn => by simp at hn; simp; omega) (by simp) (inB (gt L2 s)) (fun v hv => hel3_ok p L2 s hs2' (b12 L2 _ _ hs2 s hs2') v)
      obtain ⟨L3, f3⟩ : ∃ L3, L2.set u ((gt L2 u).filter (inB (gt L2 s))) = L3 := ⟨_, rfl⟩
      obtain ⟨b3, eb3⟩ : ∃ b3, decide (((gt L2 u).filter (inB (gt L2 s))).length < (gt L2 u).length) = b3 := ⟨_, rfl⟩
      rw [f3, eb3] at hs3 g3
      rw [eu] at lx
      simp (disch := omega) [ha2, la2, q]
      repeat (refine And.intro (by omega) ?_)
      refine CodeJ.draw (.qs [0, 1, 2, 3, 4, 5, 6, 7, 8, 9, 10, 11, 12, 13] <| .l 14 [0, 1, 2] <| .nil) (by kernel_rfl) (by kernel_rfl) (by simp) ?_
      simp (disch := omega) [ha2, la2, q, lx2, hxk, lx]
      repeat (refine And.intro (by omega) ?_)
      refine callT g3 [0, 1, 2] (by simp []) (by simp [NT, netV, nC]) (by simp) (by simp [NT, netV, nC]) (by simp []) ?_
      rintro T y ⟨rfl, rfl⟩
      simp [NT, netV, nC]
      refine ⟨fun e3 => ?_, fun e3 => ?_⟩
      all_goals
        exact ⟨_, _, ⟨L3, _, rfl, rfl, hs3.rule fun j hj => hj⟩, by simp [e2, e3], by simp [NT, netV, leM], by simp [NT, netV], .inr ⟨by simp, by simp [ltM, NT, netV]⟩⟩
    · have hs3 := el3 k4 hs2 (by rw [lk0]; exact q)
      have q' : ¬ ((gt L2 a).length : Int) = 1 := by omega
      simp (disch := omega) [ha2, la2, q']
      repeat (refine And.intro (by omega) ?_)
      exact ⟨_, _, ⟨L2, _, rfl, rfl, hs3.rule fun j hj => hj⟩, by simp [e2], by simp [NT, netV, leM], by simp [NT, netV], .inr ⟨by simp, by simp [ltM, NT, netV]⟩⟩
end Go.Proofs
namespace Go.Proofs
open Go.Sv Go Go.Tb Go.Pl Go.Ut Go.Fn
set_option maxRecDepth 10000 in
set_option maxHeartbeats 2000000 in
theorem share1_ok (p : Puz) {n : Nat} {c : Con} (hc : ConOK n c) (h5 : c.kind = 5) {L : Lf} (hL : LOK n L) (i : Nat) (hi : i < c.vars.length) (v : Int) (hv : Bd8 v) :
    EffC Tryd.prog 129 [iv v, .rop (conV c) 0, .ptr 2 0 0, .rop (iv i) 0] (NT p L ++ [nC]) [] (fun T y => T = NT p L ++ [nC] ∧ y = bov (shrB c L i (momL c L i v c.vars.length))) := by
  have h8 := hc.vl
  obtain ⟨n5, u5, p5⟩ := hc.k5 h5
  have ub : ∀ k, k < c.vars.length → 0 ≤ gt c.uses k ∧ gt c.uses k ≤ 100000000 := fun k hk => ⟨(p5 k hk).2, (hc.us k (by omega)).2⟩
  have la := fun (k : Nat) (hk : k < c.vars.length) => hL.nat hc hk
  have lv := fun (k : Nat) (hk : k < c.vars.length) => lget_iv (l := c.vars) hk
  have ln := fun (k : Nat) (hk : k < c.vars.length) => lget_iv (l := c.nums) (i := k) (by omega)
  have lu := fun (k : Nat) (hk : k < c.vars.length) => lget_iv (l := c.uses) (i := k) (by omega)
  have n_i := ln i hi
  have u_i := lu i hi
  have en : i < c.nums.length := by omega
  have eu : i < c.uses.length := by omega
  have bn := hc.nu i en
  have bu := ub i hi
  unfold Bd8 at hv
  refine eff_enterC Tryd.func129 rfl (by simp) (fun C hC => ?_)
  have hC : C.fx = [0, 1, 2] := hC
  refine CodeJ.go ?_
  simp only [NT, netV, nC, List.cons_append, List.nil_append]
  simp
  refine CodeJ.loop (ι := LW1) (fun ⟨k, w⟩ => ⟨107, [(0, iv v), (1, .rop (conV c) 0), (2, .ptr 2 0 0), (3, .rop (iv i) 0), (6, .view 3 0 w.length), (18, ilv c.vars), (19, iv c.vars.length), (20, iv k)], NT p L ++ [nC, some ⟨1, w.map iv, false⟩]⟩)
    (fun ⟨k, w⟩ => k ≤ c.vars.length ∧ w = momL c L i v k ∧ w.length ≤ k + 1) (fun ⟨k, w⟩ => c.vars.length - k) ⟨0, [v]⟩ ?_ ?_ ?_
  · exact ⟨by omega, rfl, by simp⟩
  · simp [leS, hC, NT, netV, nC]
  rintro ⟨k, w⟩ ⟨hk, hw, hwl⟩
  simp only [NT, netV, nC, List.cons_append, List.nil_append]
  by_cases hkl : k < c.vars.length
  · obtain ⟨u, ek, hu, lk', l12, l0, wb⟩ := la k hkl
    have vk := lv k hkl
    rw [ek] at vk
    have hb := low_bd wb l0
    have gh := nHigh_ok p L u hu l0 l12
    have ms : momL c L i v (k + 1) = if k ≠ i ∧ v ≤ high (lk c L k) ∧ high (lk c L k) < v + gt c.nums i then momL c L i v k ++ [high (lk c L k)] else momL c L i v k := rfl
    have hb2 := hb.2
    unfold Bd8 at hb2
    rw [lk', ← hw] at ms
    generalize high (gt L u) = hg at *
    simp (disch := omega) [hkl, vk]
    repeat (refine And.intro (by omega) ?_)
    refine callT gh [0, 1] (by simp []) (by simp [NT, netV]) (by simp) (by simp [NT, netV]) (by simp []) ?_
    rintro T y ⟨rfl, rfl⟩
    simp [NT, netV]
    by_cases c1 : k = i
    · rw [if_neg (by simp [c1])] at ms
      subst c1
      simp (disch := omega) [w64]
      repeat (refine And.intro (by omega) ?_)
      exact ⟨⟨k + 1, w⟩, ⟨hkl, ms.symm, Nat.le_succ_of_le hwl⟩, Nat.sub_succ_lt_self _ _ hkl, by simp (disch := omega) [leS, hC]⟩
    · have c1' : ¬ (k : Int) = i := by omega
      have stay : ¬ (v ≤ hg ∧ hg < v + gt c.nums i) → w = momL c L i v (k + 1) := fun h => by rw [if_neg (fun h' => h h'.2)] at ms; exact ms.symm
      by_cases c2 : v ≤ hg
      · have c2' : ¬ hg < v := by omega
        by_cases c3 : hg < v + gt c.nums i
        · have c3' : ¬ v + gt c.nums i ≤ hg := by omega
          rw [if_pos ⟨c1, c2, c3⟩] at ms
          simp (disch := omega) [c1', c2, c3, c2', n_i, en, w64]
          repeat (refine And.intro (by omega) ?_)
          exact ⟨⟨by simp [hC], by omega⟩, ⟨k + 1, w ++ [hg]⟩, ⟨hkl, ms.symm, by simp; exact hwl⟩, Nat.sub_succ_lt_self _ _ hkl, by simp (disch := omega) [leS, hC]⟩
        · have c3' : v + gt c.nums i ≤ hg := by omega
          simp (disch := omega) [c1', c2, c3, c2', n_i, en, w64]
          repeat (refine And.intro (by omega) ?_)
          exact ⟨⟨k + 1, w⟩, ⟨hkl, stay (by omega), Nat.le_succ_of_le hwl⟩, Nat.sub_succ_lt_self _ _ hkl, by simp (disch := omega) [leS, hC]⟩
      · have c2' : hg < v := by omega
        simp (disch := omega) [c1', c2, c2', n_i, en, w64]
        repeat (refine And.intro (by omega) ?_)
        exact ⟨⟨k + 1, w⟩, ⟨hkl, stay (by omega), Nat.le_succ_of_le hwl⟩, Nat.sub_succ_lt_self _ _ hkl, by simp (disch := omega) [leS, hC]⟩
  · obtain rfl : k = c.vars.length := by omega
    rw [← hw]
    simp
    refine CodeJ.frz 3 rfl (by simp) ?_
    simp [frzS, tset]
    have wl : w.length ≤ 9 := by omega
    obtain ⟨b, hb⟩ : ∃ b, shrB c L i w = b := ⟨_, rfl⟩
    rw [hb]
    refine CodeJ.loop (ι := Nat) (fun t => ⟨107, [(0, iv v), (1, .rop (conV c) 0), (2, .ptr 2 0 0), (3, .rop (iv i) 0), (52, .ro (w.map iv)), (53, iv w.length), (54, iv t)], NT p L ++ [nC]⟩)
      (fun t => t ≤ w.length ∧ ∀ j, j < t → gt c.uses i + useS c L i (gt w j) c.vars.length ≤ c.limit) (fun t => w.length - t) 0 ?_ ?_ ?_
    · exact ⟨by omega, fun j hj => by omega⟩
    · simp [leS, hC, NT, netV, nC]
    rintro t ⟨ht, hd⟩
    simp only [NT, netV, nC, List.cons_append, List.nil_append]
    by_cases htl : t < w.length
    · have lw := lget_iv htl
      have hm := gt_mem htl
      have st := @step_lt (fun j => gt c.uses i + useS c L i (gt w j) c.vars.length ≤ c.limit) t hd
      have no : ¬ gt c.uses i + useS c L i (gt w t) c.vars.length ≤ c.limit → b = false := fun q => by
        rw [← hb]
        simp only [shrB, List.all_eq_false]
        exact ⟨_, hm, by simpa using q⟩
      generalize gt w t = m at *
      simp (disch := omega) [htl, lw, u_i, eu]
      repeat (refine And.intro (by omega) ?_)
      refine CodeJ.loop (ι := Nat) (fun k => ⟨107, [(0, iv v), (1, .rop (conV c) 0), (2, .ptr 2 0 0), (3, .rop (iv i) 0), (11, iv m), (12, iv (gt c.uses i + useS c L i m k)), (52, .ro (w.map iv)), (53, iv w.length), (54, iv t), (64, ilv c.vars), (65, iv c.vars.length), (66, iv k)], NT p L ++ [nC]⟩)
        (fun k => k ≤ c.vars.length) (fun k => c.vars.length - k) 0 (by omega) ?_ ?_
      · simp [leS, hC, useS, sumN, NT, netV, nC]
      rintro k hk
      simp only [NT, netV, nC, List.cons_append, List.nil_append]
      by_cases hkl : k < c.vars.length
      · obtain ⟨u, ek, hu, lk', l12, l0, wb⟩ := la k hkl
        have vk := lv k hkl
        rw [ek] at vk
        have nk := ln k hkl
        have uk := lu k hkl
        have hb := low_bd wb l0
        have gh := nHigh_ok p L u hu l0 l12
        have gl := nLow_ok p L u hu l0
        have ms : useS c L i m (k + 1) = useS c L i m k + if k ≠ i ∧ high (lk c L k) ≤ m ∧ m < low (lk c L k) + gt c.nums k then gt c.uses k else 0 := rfl
        have bs := useS_bd (c := c) (L := L) (m := m) (i := i) ub k (by omega)
        have bk := ub k hkl
        have bnk := hc.nu k (by omega)
        have ekn : k < c.nums.length := by omega
        have eku : k < c.uses.length := by omega
        obtain ⟨hb1, hb2⟩ := hb
        unfold Bd8 at hb1 hb2
        rw [lk'] at ms
        generalize high (gt L u) = hg at *
        generalize low (gt L u) = lo at *
        simp (disch := omega) [hkl, vk]
        repeat (refine And.intro (by omega) ?_)
        refine CodeJ.draw (.qs [0, 1, 2, 3, 4, 5, 7] <| .l 6 [0, 1] <| .qs [8, 9, 10, 11, 12, 13, 15] <| .q 16 [0, 1] <| .qs [17, 18] <| .q 19 [0, 1] <| .l 14 [0, 1] <| .qs [20, 21, 22] <| .nil) (by kernel_rfl) (by kernel_rfl) (by simp) ?_
        by_cases c1 : k = i
        · rw [if_neg (by simp [c1])] at ms
          subst c1
          simp (disch := omega) [w64]
          repeat (refine And.intro (by omega) ?_)
          exact ⟨k + 1, by omega, by omega, by simp (disch := omega) [leS, hC, ms]⟩
        · have c1' : ¬ (k : Int) = i := by omega
          have stay : ¬ (hg ≤ m ∧ m < lo + gt c.nums k) → useS c L i m (k + 1) = useS c L i m k := fun h => by rw [if_neg (fun h' => h h'.2)] at ms; omega
          simp (disch := omega) [c1']
          repeat (refine And.intro (by omega) ?_)
          refine callT gh [0, 1] (by simp []) (by simp [NT, netV]) (by simp) (by simp [NT, netV]) (by simp []) ?_
          rintro T y ⟨rfl, rfl⟩
          simp [NT, netV]
          by_cases c2 : hg ≤ m
          · have c2' : ¬ m < hg := by omega
            simp (disch := omega) [c2, c2', nk, ekn]
            repeat (refine And.intro (by omega) ?_)
            refine callT gl [0, 1] (by simp []) (by simp [NT, netV]) (by simp) (by simp [NT, netV]) (by simp []) ?_
            rintro T y ⟨rfl, rfl⟩
            simp [NT, netV]
            by_cases c3 : m < lo + gt c.nums k
            · have c3' : ¬ lo + gt c.nums k ≤ m := by omega
              rw [if_pos ⟨c1, c2, c3⟩] at ms
              simp (disch := omega) [w64, uk, eku, c3, c3']
              repeat (refine And.intro (by omega) ?_)
              exact ⟨k + 1, by omega, by omega, by simp (disch := omega) [leS, hC, ms]; omega⟩
            · have c3' : lo + gt c.nums k ≤ m := by omega
              simp (disch := omega) [w64, uk, eku, c3, c3']
              repeat (refine And.intro (by omega) ?_)
              exact ⟨k + 1, by omega, by omega, by simp (disch := omega) [leS, hC, stay (by omega)]⟩
          · have c2' : m < hg := by omega
            simp (disch := omega) [c2, c2', w64]
            repeat (refine And.intro (by omega) ?_)
            exact ⟨k + 1, by omega, by omega, by simp (disch := omega) [leS, hC, stay (by omega)]⟩
      · obtain rfl : k = c.vars.length := by omega
        simp
        refine ⟨fun q => ?_, fun q => ?_⟩
        · rw [no (by omega)]
          exact ⟨_, _, ⟨rfl, rfl⟩, rfl, by simp [leM], by simp, .inl rfl⟩
        · exact ⟨t + 1, ⟨by omega, st (by omega)⟩, by omega, by simp (disch := omega) [leS, hC, w64]⟩
    · obtain rfl : t = w.length := by omega
      have : b = true := by
        rw [← hb, shrB, List.all_eq_true]
        intro m hm
        obtain ⟨j, hj, rfl⟩ := mem_gt hm
        exact decide_eq_true (hd j hj)
      subst this
      simp
      exact ⟨_, _, ⟨rfl, rfl⟩, rfl, by simp [leM], by simp, .inl rfl⟩
end Go.Proofs
namespace Go.Proofs
open Go.Sv Go Go.Tb Go.Pl Go.Ut Go.Fn
set_option maxRecDepth 10000 in
set_option maxHeartbeats 2000000 in
theorem nShare_ok {p : Puz} {n : Nat} {c : Con} (hc : ConOK n c) (k5 : c.kind = 5) {L : Lf} (hL : LOK n L) : EffC Tryd.prog 128 [.ptr 0 0 0, conV c] (NT p L) [] (RulQ p c L) := by
  have h8 := hc.vl
  obtain ⟨n5, u5, p5⟩ := hc.k5 k5
  have pm : ∀ (M : Lf) (i : Nat) (v : Int), May c M i v ↔ ShrM c M i v := fun M i v => by
    unfold May; rw [if_neg (by omega), if_neg (by omega), if_neg (by omega), if_neg (by omega)]
  refine eff_enterC Tryd.func128 rfl (by simp) (fun C hC => ?_)
  have hC : C.fx = [0, 1] := hC
  simp only [NT, netV]
  refine CodeJ.seqI (CodeJ.regionI (OpsJ.go ?_))
  simp
  refine CodeJ.frz 3 rfl (by simp) ?_
  simp [frzS, tset]
  refine CodeJ.go ?_
  simp
  refine CodeJ.loop (ι := LI) (fun ⟨i, ag, L'⟩ => ⟨45, [(2, .ptr 2 0 0), (3, .rop (conV c) 0), (5, bov ag), (9, ilv c.vars), (10, iv c.vars.length), (11, iv i)], NT p L' ++ [nC]⟩)
    (fun ⟨i, ag, L'⟩ => i ≤ c.vars.length ∧ Sofar c L L' ag (fun j => j < i) ∧ NE L') (fun ⟨i, ag, L'⟩ => c.vars.length - i) ⟨0, false, L⟩ ?_ ?_ ?_
  · exact ⟨Nat.zero_le _, sofar_0 c L, hL.ne⟩
  · simp [leS, hC, NT, netV, nC]
  rintro ⟨i, ag, L'⟩ ⟨hi, hs, ne⟩
  simp only [NT, netV, nC, List.cons_append, List.nil_append]
  by_cases hlt : i < c.vars.length
  · have hL' := sofar_lok hs hL ne
    obtain ⟨w, ew, hw, lw, w12, w0, wb⟩ := hL'.nat hc hlt
    have vi := lget_iv (l := c.vars) hlt
    have ni := lget_iv (l := c.nums) (i := i) (by omega)
    have ui := lget_iv (l := c.uses) (i := i) (by omega)
    have en : i < c.nums.length := by omega
    have eu : i < c.uses.length := by omega
    rw [ew] at vi
    by_cases z1 : gt c.nums i = 0
    · have sk := hs.skip (fun v => (pm L i v).2 (.inl z1))
      simp (disch := omega) [hlt, vi, ni, en, z1]
      repeat (refine And.intro (by omega) ?_)
      exact ⟨⟨i + 1, ag, L'⟩, ⟨hlt, sk, ne⟩, Nat.sub_succ_lt_self _ _ hlt, by simp (disch := omega) [leS, hC, w64]⟩
    by_cases z2 : gt c.uses i = 0
    · have sk := hs.skip (fun v => (pm L i v).2 (.inr (.inl z2)))
      simp (disch := omega) [hlt, vi, ni, ui, en, eu, z1, z2]
      repeat (refine And.intro (by omega) ?_)
      exact ⟨⟨i + 1, ag, L'⟩, ⟨hlt, sk, ne⟩, Nat.sub_succ_lt_self _ _ hlt, by simp (disch := omega) [leS, hC, w64]⟩
    have sm := hs.may hc hL.len hL.asc ne hlt (fun v => shrB c L' i (momL c L' i v c.vars.length)) fun v _ => by rw [pm]; exact shrM_L z1 z2
    rw [ew, lw, Int.toNat_natCast] at sm
    obtain ⟨L2, b2, e2, eb, l2, hs2, w2, y2, n2⟩ := sofar_two hw ne sm
    have gk := nKeep_ok p L' w hw w12 [nC] 129 [.rop (conV c) 0, .ptr 2 0 0, .rop (iv i) 0] (.inr ⟨rfl, fun σ h0 h1 h2 => by simp [h2]⟩) (fun n hn => by simp at hn; simp; omega) (by simp) (fun v => shrB c L' i (momL c L' i v c.vars.length)) (fun v hv => share1_ok p hc k5 hL' i hlt v (wb v hv))
    rw [e2, eb] at gk
    simp (disch := omega) [hlt, vi, ni, ui, en, eu, z1, z2]
    repeat (refine And.intro (by omega) ?_)
    refine callFz 3 rfl (by simp) ?_
    simp
    refine callT gk [0, 1, 2] (by simp []) (by simp [NT, netV, nC]) (by simp) (by simp [NT, netV, nC]) (by simp []) ?_
    rintro T y ⟨rfl, rfl⟩
    have hw2 : w < L2.length := by omega
    have lv := lget_ilv hw2
    simp [NT, netV, nC]
    refine ⟨fun q => ?_, fun q => ?_⟩
    all_goals
      simp (disch := omega) [hw2, lv]
      repeat (refine And.intro (by omega) ?_)
      refine ⟨fun z => ?_, fun z => ?_⟩
      · rw [y2 (by simpa using z), Bool.true_or] at hs2
        exact ⟨_, _, ⟨L2, true, rfl, rfl, hs2.stop rfl⟩, rfl, by simp [NT, netV, leM], by simp [NT, netV], .inr ⟨by simp, by simp [ltM, NT, netV]⟩⟩
      · exact ⟨⟨i + 1, b2 || ag, L2⟩, ⟨hlt, hs2, n2 (List.length_pos_iff.2 (by simpa using z))⟩, Nat.sub_succ_lt_self _ _ hlt, by simp (disch := omega) [leS, hC, w64, q]⟩
  · obtain rfl : i = c.vars.length := by omega
    simp
    exact ⟨_, _, ⟨L', ag, rfl, rfl, hs.rule fun j hj => hj⟩, rfl, by simp [NT, netV, leM], by simp [NT, netV], .inr ⟨by simp, by simp [ltM, NT, netV]⟩⟩
end Go.Proofs

