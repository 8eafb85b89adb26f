/- Puzzles: the first values that keep one by trying all, and those with the least of a variable. A text of the prover's own; it names no program. The first values that keep a puzzle, all tried; those with the least of a variable; what the law FiniteFirst returns. A text of the prover's own. -/
import Derived.Test.YtadkomdooleipaaGreatDoorKAg
import Derived.Test.YtadkomdooleipaaGreatDoorKAr
import Derived.Test.YtadkomdooleipaaGreatDoorKOv
namespace Go.Fn
open Go Go.Sv Go.Pl Go.Proofs Go.Tb Go.Ut
/-- where all are chosen -/
theorem ext_leaf {p : Puz} {k a : Int} {x : List Int} (hx : x.length = p.values.length) (h1 : ∀ i : Nat, i < x.length → (i : Int) = k → gt x i = a) (b : Bool) (hb : b = true ↔ KeepsP p x) : IsFirst (Ext p k a x) (if b = true then some x else none) := by
  have he : ∀ y, Ext p k a x y → y = x := fun y hy => ext_gt' (by rw [hy.len, hx]) fun i hi => hy.pre i (by rw [hx, ← hy.len]; exact hi)
  split
  · rename_i h
    have hk := hb.1 h
    exact ⟨⟨hx, fun i hi => hk.mem i (by omega), hk.con, fun i hi e => h1 i (by omega) e, fun _ _ => rfl⟩, fun y hy => by rw [he y hy]; exact lexle_refl _⟩
  · rename_i h
    intro y hy
    obtain rfl := he y hy
    exact h (hb.2 ⟨fun i hi => hy.mem i (by omega), hy.con⟩)
/-- those with the least of a variable, and of these the first -/
inductive Lst (q : List Int → Prop) (k : Nat) (l : List Int) : Option (List Int) → Prop
  | some (t : Nat) (x : List Int) (ht : t < l.length) (h0 : ∀ s, s < t → ∀ y, q y → gt y k ≠ gt l s) (hx : IsFirst (fun y => q y ∧ gt y k = gt l t) (some x)) : Lst q k l (some x)
  | none (h0 : ∀ s, s < l.length → ∀ y, q y → gt y k ≠ gt l s) : Lst q k l none
theorem lst_eq {q : List Int → Prop} {k : Nat} {l : List Int} {a b : Option (List Int)} (ha : Lst q k l a) (hb : Lst q k l b) : a = b := by
  cases ha with
  | none h0 => cases hb with
    | none => rfl
    | some t x ht _ hx => exact absurd hx.1.2 (h0 t ht x hx.1.1)
  | some t x ht h0 hx => cases hb with
    | none h0 => exact absurd hx.1.2 (h0 t ht x hx.1.1)
    | some t' x' ht' h0' hx' =>
      rcases Nat.lt_trichotomy t t' with e | e | e
      · exact absurd hx.1.2 (h0' t e x hx.1.1)
      · subst e; exact first_eq hx hx'
      · exact absurd hx'.1.2 (h0 t' e x' hx'.1.1)
theorem dif_first : IsFirst (Sol dif dif.values) (some [1, 2, 3]) := by
  have hs : Sol dif dif.values [1, 2, 3] := ⟨rfl, fun i hi => by
    match i, hi with
    | 0, _ | 1, _ | 2, _ => decide
    | n + 3, h => exact absurd h (by simp [dif]), fun c hc => by
    have : c = ⟨1, [0, 1, 2], [], [], 0, []⟩ := by simpa [dif] using hc
    subst this
    show if _ then _ else _
    rw [if_pos rfl]
    decide⟩
  refine ⟨hs, fun y hy => ?_⟩
  have l3 : y.length = 3 := hy.len
  match y, l3 with
  | [a, b, c], _ =>
    have h0 := hy.mem 0 (by decide)
    have h1 := hy.mem 1 (by decide)
    have h2 := hy.mem 2 (by decide)
    have hk := hy.con ⟨1, [0, 1, 2], [], [], 0, []⟩ (by simp [dif])
    change if _ then _ else _ at hk
    rw [if_pos rfl] at hk
    simp [dif, gt] at h0 h1 h2
    simp [argsOf, gt] at hk
    show 1 < a ∨ _
    rcases h0 with rfl | rfl
    · refine .inr ⟨rfl, ?_⟩
      have : b = 2 := by omega
      subst this
      refine .inr ⟨rfl, ?_⟩
      have : c = 3 := by omega
      subst this
      exact .inr ⟨rfl, trivial⟩
    · exact .inl (by omega)
end Go.Fn
namespace Go.Fn
open Go Go.Sv Go.Pl Go.Proofs Go.Tb Go.Ut
/-- a nil slice as a list without elements -/
def e1 : SV → SV
  | .val (.slice none 0 0) => .ro []
  | x => x
@[simp] theorem e1_none : e1 (.val (.slice none 0 0)) = .ro [] := rfl
@[simp] theorem e1_agg {l : List SV} : e1 (.agg l) = .agg l := rfl
@[simp] theorem e1_puz {p : Puz} : e1 (puzV p) = puzV p := rfl
@[simp] theorem e1_int {k : IntKind} {n : Int} : e1 (.val (.int k n)) = .val (.int k n) := rfl
theorem e1_den {β : Bnd} {H : Hp} {x : SV} {v : Value} (h : Den β H x v) : Den β H (e1 x) v := by
  unfold e1
  split
  · simp only [Den] at h ⊢
    exact .inl ⟨by trivial, _, _, h.1⟩
  · exact h
theorem e1_denT {β : Bnd} {H : Hp} : ∀ {l : List SV} {vs : List Value}, DenT β H l vs → DenT β H (l.map e1) vs
  | [], vs, h => h
  | x :: l, vs, h => by
    simp only [DenT, List.map_cons] at h ⊢
    obtain ⟨v, r, rfl, h1, h2⟩ := h
    exact ⟨v, r, rfl, e1_den h1, e1_denT h2⟩
theorem callNl {P : Program} {C : Ctx} {f : FuncId} {args : List SV} {M : Tab} {W : Option (List Nat)} {K : Tab → List Nat → SV → Prop} (h : CallJ P C f (args.map e1) M W K) : CallJ P C f args M W K :=
  fun β H w vals hd hW => h β H w vals (e1_denT hd) hW
/-- what trying returns -/
def TrQ (p : Puz) (k a : Int) (x : List Int) (y : SV) : Prop := ∃ o : Option (List Int), IsFirst (Ext p k a x) o ∧ (∀ z, o = some z → y = .tup [ilv z, .val (.bool true)]) ∧ (o = none → y = .tup [.val (.slice none 0 0), .val (.bool false)] ∨ ∃ u : List Int, y = .tup [ilv u, .val (.bool false)])
theorem tr_some {p : Puz} {k a : Int} {x z : List Int} {M : Tab} (h : IsFirst (Ext p k a x) (some z)) : Sv.fin M (.tup [.ro (z.map iv), .val (.bool true)]) (TrQ p k a x) := ⟨.tup [.ro (z.map iv), .val (.bool true)], by simp, some z, h, fun z' e => (by cases e; rfl), fun e => by cases e⟩
theorem tr_none {p : Puz} {k a : Int} {x : List Int} {M : Tab} (h : IsFirst (Ext p k a x) none) : Sv.fin M (.tup [.val (.slice none 0 0), .val (.bool false)]) (TrQ p k a x) := ⟨.tup [.val (.slice none 0 0), .val (.bool false)], by simp, none, h, fun z' e => (by cases e), fun _ => .inl rfl⟩
theorem tr_leaf {p : Puz} {k a : Int} {x : List Int} {M : Tab} {b : Bool} (h : IsFirst (Ext p k a x) (if b = true then some x else none)) : Sv.fin M (.tup [.ro (x.map iv), .val (.bool b)]) (TrQ p k a x) := by
  cases b with
  | true => exact tr_some h
  | false => exact ⟨.tup [.ro (x.map iv), .val (.bool false)], by simp, none, h, fun z' e => (by cases e), fun _ => .inr ⟨x, rfl⟩⟩
end Go.Fn
namespace Go.Proofs
open Go.Sv Go Go.Tb Go.Pl Go.Ut Go.Fn
set_option maxRecDepth 10000 in
set_option maxHeartbeats 1000000 in
theorem rTried_ok (p : Puz) (hp : PuzOK p) (k a : Int) : ∀ (d : Nat) (x : List Int), x.length + d = p.values.length → (∀ i : Nat, i < x.length → (i : Int) = k → gt x i = a) → PureC Tryz.prog 19 [puzV p, .ro (x.map iv), iv k, iv a] (TrQ p k a x) := by
  have hv := hp.few.v
  intro d
  induction d with
  | zero =>
    intro x hx h1
    have hx : x.length = p.values.length := hx
    have hx' : (x.length : Int) = p.values.length := by omega
    refine pure_enterJ Tryz.func19 rfl (by simp) (fun C hC => ?_)
    refine CodeJ.seqI (CodeJ.regionI (OpsJ.go ?_))
    simp
    refine CodeJ.frz 0 rfl (by simp) ?_
    simp [frzS, tset]
    refine CodeJ.go ?_
    simp [hx']
    refine callP (rKeeps_ok p hp x hx) (SubL_self _ _ (by simp)) (fun y hy => ?_)
    obtain ⟨b, rfl, hb⟩ := hy
    have hf := ext_leaf hx h1 b hb
    simp
    exact tr_leaf hf
  | succ d ih =>
    intro x hx h1
    have hlt : x.length < p.values.length := by omega
    have hx' : ¬ (x.length : Int) = p.values.length := by omega
    have lv := lget_ilv hlt
    have hasc := hp.asc x.length hlt
    have l12 := hp.few.l _ (gt_mem hlt)
    have hmem : ∀ y, Ext p k a x y → gt y x.length ∈ gt p.values x.length := fun y hy => hy.mem _ hlt
    refine pure_enterJ Tryz.func19 rfl (by simp) (fun C hC => ?_)
    refine CodeJ.seqI (CodeJ.regionI (OpsJ.go ?_))
    simp
    refine CodeJ.frz 0 rfl (by simp) ?_
    simp [frzS, tset]
    refine CodeJ.go ?_
    simp [hx']
    refine CodeJ.loopC (ι := Nat) (fun i => ⟨77, [(1, .ro (x.map iv)), (2, iv k), (3, iv a), (4, .rop (puzV p) 0), (10, iv x.length), (12, iv i)], []⟩)
      (fun i => i ≤ (gt p.values x.length).length ∧ ∀ s, s < i → ∀ y, Ext p k a x y → gt y x.length ≠ gt (gt p.values x.length) s) (fun i => (gt p.values x.length).length - i) 0 ?_ ?_ ?_
    · exact ⟨Nat.zero_le _, fun s hs => by omega⟩
    · simp [leS, hC]
    generalize hl : gt p.values x.length = l at *
    rintro i ⟨hi, hno⟩
    by_cases hil : i < l.length
    · have li := lget_iv hil
      have hm := gt_mem hil
      have es := fun y => ext_step (p := p) (k := k) (at' := a) (v := gt l i) hlt (y := y)
      have fs := fun z => first_some (q := Ext p k a x) (l := l) (n := x.length) (N := p.values.length) hasc hmem (fun y y' hy hy' j hj => by rw [hy.pre j hj, hy'.pre j hj]) (fun y hy => hy.len) hlt hil hno (x := z)
      have fn := none_of (q := Ext p k a x) (l := l) (n := x.length) hno
      have sk : (x.length : Int) = k → gt l i ≠ a → ∀ s, s < i + 1 → ∀ y, Ext p k a x y → gt y x.length ≠ gt l s := fun e1 e2 s hs y hy e3 => by
        by_cases e : s = i
        · subst e; exact e2 (by rw [← e3]; exact hy.one _ hlt e1)
        · exact hno s (by omega) y hy e3
      have g := fun (h : (x.length : Int) = k → gt l i = a) => ih (x ++ [gt l i]) (by simp; omega) (fun j hj e => by
        by_cases q : j < x.length
        · rw [gt_app q]; exact h1 j q e
        · have : j = x.length := by simp at hj; omega
          subst this
          rw [show gt (x ++ [gt l i]) x.length = gt l i by simp [gt]]; exact h e)
      generalize gt l i = v at *
      refine CodeJ.seqI (CodeJ.seqI (CodeJ.regionI (OpsJ.go ?_)))
      simp (disch := omega) [hlt, lv]
      repeat (refine And.intro (by omega) ?_)
      refine CodeJ.condI true (by simp [hil]) (fun _ => ?_) (fun q => by cases q)
      refine CodeJ.go ?_
      simp
      refine CodeJ.seqI (CodeJ.blockI ?_)
      refine CodeJ.cutAt 1 (fun st => ((x.length : Int) = k → v = a) ∧ st = ⟨77, [(1, .ro (x.map iv)), (2, iv k), (3, iv a), (4, .rop (puzV p) 0), (10, iv x.length), (12, iv i)], []⟩) ?_ ?_
      · simp only [takeC_succ, takeC_zero]
        by_cases hk : (x.length : Int) = k
        · have hkT : ((x.length : Int) = k) = True := eq_true hk
          by_cases hva : v = a
          · simp (disch := omega) [hlt, lv, li, hil, hkT, hva]
            repeat (refine And.intro (by omega) ?_)
            simp [leS, hC]
          · simp (disch := omega) [hlt, lv, li, hil, hkT, hva]
            repeat (refine And.intro (by omega) ?_)
            refine CodeJ.go ?_
            simp
            exact ⟨i + 1, ⟨by omega, sk hk hva⟩, by omega, Le.syn (by simp (disch := omega) [leS, hC, w64])⟩
        · simp (disch := omega) [hlt, lv, li, hil, hk]
          repeat (refine And.intro (by omega) ?_)
          simp [leS, hC]
      rintro st ⟨hva, rfl⟩
      have g := g hva
      simp only [dropC_succ, dropC_zero]
      refine CodeJ.go ?_
      simp (disch := omega) [hlt, lv, li, hil]
      repeat (refine And.intro (by omega) ?_)
      refine ⟨⟨by simp [hC], by omega⟩, ?_⟩
      refine callFz 0 rfl (by simp) ?_
      simp
      rw [show List.take (x.length + 1) (List.map iv x ++ [SV.val (Value.int IntKind.i64 v)]) = List.map iv (x ++ [v]) by rw [List.take_of_length_le (by simp)]; simp]
      refine callP g (SubL_self _ _ (by simp)) (fun y hy => ?_)
      obtain ⟨o, ho, o1, o2⟩ := hy
      cases o with
      | some z =>
        rw [o1 z rfl]
        simp
        exact tr_some (fs z (ho.iff es))
      | none =>
        rcases o2 rfl with e | ⟨u, e⟩
        all_goals
          rw [e]
          simp
          refine CodeJ.go ?_
          simp
          exact ⟨i + 1, ⟨by omega, fn (ho.iff es)⟩, by omega, Le.syn (by simp (disch := omega) [leS, hC, w64])⟩
    · obtain rfl : i = l.length := by omega
      refine CodeJ.go ?_
      simp (disch := omega) [hlt, lv]
      repeat (refine And.intro (by omega) ?_)
      exact tr_none (first_none (q := Ext p k a x) hmem hno)
set_option maxRecDepth 10000 in
theorem rFirst_ok (p : Puz) (hp : PuzOK p) (k a : Int) : PureC Tryz.prog 11 [puzV p, iv k, iv a] (TrQ p k a []) := by
  refine pure_enterJ Tryz.func11 rfl (by simp) (fun C hC => ?_)
  refine CodeJ.seqI (CodeJ.regionI (OpsJ.go ?_))
  simp
  refine CodeJ.frz 0 rfl (by simp) ?_
  simp [frzS, tset]
  refine CodeJ.go ?_
  simp
  refine callNl ?_
  simp
  refine callP (rTried_ok p hp k a p.values.length [] (by simp) (fun i hi => by simp at hi)) (SubL_self _ _ (by simp)) (fun y hy => ?_)
  obtain ⟨o, ho, o1, o2⟩ := hy
  cases o with
  | some z =>
    rw [o1 z rfl]
    simp
    exact tr_some ho
  | none =>
    rcases o2 rfl with e | ⟨u, e⟩
    · rw [e]
      simp
      exact tr_none ho
    · rw [e]
      simp
      exact ⟨.tup [.ro (u.map iv), .val (.bool false)], by simp, none, ho, fun z' e => (by cases e), fun _ => .inr ⟨u, rfl⟩⟩
end Go.Proofs
namespace Go.Fn
open Go Go.Sv Go.Pl Go.Proofs Go.Tb Go.Ut
/-- what is returned of those with the least of a variable -/
def LeaQ (p : Puz) (k : Nat) (y : SV) : Prop := ∃ o, Lst (Sol p p.values) k (gt p.values k) o ∧ (∀ x, o = some x → y = .tup [ilv x, .val (.bool true)]) ∧ (o = none → y = .tup [.val (.slice none 0 0), .val (.bool false)])
def QLeaQ (p : Puz) (k : Nat) (y : SV) : Prop := ∃ o, Lst (Sol p p.values) k (gt p.values k) o ∧ (∀ x, o = some x → y = .tup [ilv x, .val (.bool true), .val .nilIface]) ∧ (o = none → y = .tup [.val (.slice none 0 0), .val (.bool false), .val .nilIface])
inductive FstO (p : Puz) (o : Option (List Int)) (x : SV) : Prop
  | some (z : List Int) (e1 : o = some z) (e2 : x = ilv z) (h : IsFirst (Sol p p.values) (some z))
  | none (e1 : o = none) (e2 : x = .val (.slice none 0 0)) (h : IsFirst (Sol p p.values) none)
inductive LeaO (p : Puz) (k : Int) (y : SV) (s : Bool) (b : SV) : Prop
  | some (n : Nat) (ek : k = n) (hn : n < p.values.length) (z : List Int) (e2 : y = ilv z) (e3 : s = true) (e4 : b = .val .nilIface) (h : Lst (Sol p p.values) n (gt p.values n) (some z))
  | none (n : Nat) (ek : k = n) (hn : n < p.values.length) (e2 : y = .val (.slice none 0 0)) (e3 : s = false) (e4 : b = .val .nilIface) (h : Lst (Sol p p.values) n (gt p.values n) none)
  | out (h : k < 0 ∨ (p.values.length : Int) ≤ k) (e2 : y = .val (.slice none 0 0)) (e3 : s = false) (e4 : b = erV 4)
theorem lst_len {p : Puz} {k : Nat} {l : List Int} {z : List Int} (h : Lst (Sol p p.values) k l (some z)) : z.length = p.values.length := by
  cases h with
  | some t x ht h0 hx => exact hx.1.1.len
end Go.Fn
namespace Go.Proofs
open Go.Sv Go Go.Tb Go.Pl Go.Ut Go.Fn
set_option maxRecDepth 10000 in
set_option maxHeartbeats 1000000 in
theorem rLeast_ok (p : Puz) (hp : PuzOK p) (k : Nat) (hk : k < p.values.length) : PureC Tryz.prog 12 [puzV p, iv k] (LeaQ p k) := by
  have lv := lget_ilv hk
  have l12 := hp.few.l _ (gt_mem hk)
  have h6 := hp.few.v
  refine pure_enterJ Tryz.func12 rfl (by simp) (fun C hC => ?_)
  refine CodeJ.seqI (CodeJ.regionI (OpsJ.go ?_))
  simp
  refine CodeJ.frz 0 rfl (by simp) ?_
  simp [frzS, tset]
  refine CodeJ.go ?_
  simp
  refine CodeJ.loop (ι := Nat) (fun i => ⟨35, [(1, iv k), (2, .rop (puzV p) 0), (6, iv i)], []⟩)
    (fun i => i ≤ (gt p.values k).length ∧ ∀ s, s < i → ∀ y, Sol p p.values y → gt y k ≠ gt (gt p.values k) s) (fun i => (gt p.values k).length - i) 0 ?_ ?_ ?_
  · exact ⟨Nat.zero_le _, fun s hs => by omega⟩
  · simp [leS, hC]
  generalize hl : gt p.values k = l at *
  rintro i ⟨hi, hno⟩
  by_cases hil : i < l.length
  · have li := lget_iv hil
    have g := rFirst_ok p hp k (gt l i)
    have es := fun y => ext_at (p := p) hk (v := gt l i) (y := y)
    have ls := fun x => Lst.some (q := Sol p p.values) (k := k) (l := l) i x hil hno
    have ln := none_of (q := Sol p p.values) (l := l) (n := k) hno
    generalize gt l i = v at *
    simp (disch := omega) [hk, lv, hil]
    repeat (refine And.intro (by omega) ?_)
    refine CodeJ.draw (.qs [0, 1, 2, 3, 4, 5, 6, 7, 8, 9] <| .l 10 [] <| .qs [11, 12, 13, 14, 15] <| .nil) (by kernel_rfl) (by kernel_rfl) (by simp) ?_
    simp (disch := omega) [hk, lv, hil, li]
    repeat (refine And.intro (by omega) ?_)
    refine callP g (SubL_self _ _ (by simp)) (fun y hy => ?_)
    obtain ⟨o, ho, o1, o2⟩ := hy
    cases o with
    | some z =>
      rw [o1 z rfl]
      simp
      exact ⟨.tup [.ro (z.map iv), .val (.bool true)], by simp, some z, by rw [hl]; exact ls z (ho.iff es), fun x e => (by cases e; rfl), fun e => by cases e⟩
    | none =>
      rcases o2 rfl with e | ⟨u, e⟩
      all_goals
        rw [e]
        simp
        exact ⟨i + 1, ⟨by omega, ln (ho.iff es)⟩, by omega, by simp (disch := omega) [leS, hC, w64]⟩
  · obtain rfl : i = l.length := by omega
    simp (disch := omega) [hk, lv]
    repeat (refine And.intro (by omega) ?_)
    exact ⟨.tup [.val (.slice none 0 0), .val (.bool false)], by simp, none, by rw [hl]; exact .none hno, fun x e => (by cases e), fun _ => rfl⟩
set_option maxRecDepth 10000 in
set_option maxHeartbeats 1000000 in
theorem qLeast_ok (p : Puz) (hp : PuzOK p) (h0 : vPuz p = 0) (k : Nat) (hk : k < p.values.length) : PureC Tryz.prog 8 [puzV p, iv k] (QLeaQ p k) := by
  have gq := qValid_ok p hp.few
  rw [h0] at gq
  have lv := lget_ilv hk
  have l12 := hp.few.l _ (gt_mem hk)
  have h6 := hp.few.v
  have k0 : ¬ (k : Int) < 0 := by omega
  have k1 : ¬ (p.values.length : Int) ≤ k := by omega
  have hB := bel_0 hp
  refine pure_enterJ Tryz.func8 rfl (by simp) (fun C hC => ?_)
  refine CodeJ.wk ?_
  refine CodeJ.seqI (CodeJ.regionI (OpsJ.go ?_))
  simp
  refine CodeJ.frz 0 rfl (by simp) ?_
  simp [frzS, tset]
  refine CodeJ.go ?_
  simp
  refine callS (gq) (by simp) ?_
  simp (disch := omega) [erV_0, k0, k1, hk, lv]
  repeat (refine And.intro (by omega) ?_)
  refine CodeJ.loopC (ι := Nat) (fun i => ⟨53, [(1, iv k), (2, .rop (puzV p) 0), (31, ilv (gt p.values k)), (32, iv (gt p.values k).length), (33, iv i)], []⟩)
    (fun i => i ≤ (gt p.values k).length ∧ ∀ s, s < i → ∀ y, Sol p p.values y → gt y k ≠ gt (gt p.values k) s) (fun i => (gt p.values k).length - i) 0 ?_ ?_ ?_
  · exact ⟨Nat.zero_le _, fun s hs => by omega⟩
  · simp [leS, hC]
  rintro i ⟨hi, hno⟩
  by_cases hil : i < (gt p.values k).length
  · have li := lget_iv hil
    have hm := gt_mem hil
    have ls := fun x => Lst.some (q := Sol p p.values) (k := k) (l := gt p.values k) i x hil hno
    have ln := none_of (q := Sol p p.values) (l := gt p.values k) (n := k) hno
    have ss := fun y => sol_set (p := p) (L := p.values) hk hm (y := y)
    have hB2 := hB.set hk hm
    have gi := nFirst_ok p hp h0 _ (p.values.set k [gt (gt p.values k) i]) (Nat.lt_succ_self _) hB2
    generalize gt (gt p.values k) i = v at *
    obtain ⟨L2, e2⟩ : ∃ L2, p.values.set k [v] = L2 := ⟨_, rfl⟩
    have l2 : L2.length = p.values.length := by rw [← e2]; simp
    rw [e2] at hB2 ss gi
    have hL2 : L2 ≠ [] := fun h => by rw [h] at l2; simp at l2; omega
    refine CodeJ.seqI (CodeJ.regionI (OpsJ.go ?_))
    simp
    refine CodeJ.seqI (CodeJ.condI true (by simp [hil]) (fun _ => ?_) (fun q => by cases q))
    refine CodeJ.go ?_
    simp
    refine CodeJ.seqI (CodeJ.blockI ?_)
    refine CodeJ.cutAt 4 (fun st => ∃ y, FstY p L2 y ∧ st = ⟨53, [(1, iv k), (2, .rop (puzV p) 0), (11, y), (31, ilv (gt p.values k)), (32, iv (gt p.values k).length), (33, iv i)], []⟩) ?_ ?_
    · simp only [takeC_succ, takeC_zero]
      simp (disch := omega) [hil, li]
      repeat (refine And.intro (by omega) ?_)
      refine callT (nFresh_ok hp) [] (by simp) (by simp) (by simp) (by simp) (by simp) ?_
      rintro T y ⟨rfl, rfl⟩
      have sL : ∀ (es : List SV) (X : Lf), sbL 2 es (X.map ilv) = X.map ilv := fun es X => sbL_pure _ _ _ (by simp)
      have e3 : lset (p.values.map ilv) k (.ro [.val (.int .i64 v)]) = L2.map ilv := by rw [← e2, ← lset_ilv]; rfl
      have rr : ∀ σ, renL σ (p.values.map ilv) = p.values.map ilv := fun σ => renL_pure σ _ (by simp)
      simp (disch := omega) [hk, lv, rr, NT, netV]
      repeat (refine And.intro (by omega) ?_)
      refine callFz 2 rfl (by simp) ?_
      simp [sL, e3]
      refine callT gi [0, 1] (by simp) (by simp [NT, netV, l2]) (by simp) (by simp [NT, netV, hC]) (by simp) ?_
      rintro T y ⟨L3, rfl, hy⟩
      have yr : ∀ σ, ren σ y = y := fun σ => by
        cases hy with
        | some x _ h => subst h; simp
        | emp b _ h => subst h; rfl
        | none h => subst h; rfl
      have yl : ∀ m, y.lt m = true := fun m => by
        cases hy with
        | some x _ h => subst h; simp
        | emp b _ h => subst h; rfl
        | none h => subst h; rfl
      simp [NT, netV, yr]
      exact ⟨_, ⟨y, hy, rfl⟩, by simp [leS, hC, NT, netV, yl]⟩
    rintro st ⟨y, hy, rfl⟩
    simp only [dropC_succ, dropC_zero]
    refine CodeJ.seqI (CodeJ.regionI (OpsJ.step rfl ?_))
    simp
    cases hy with
    | some x hx0 hyx hx =>
      subst hyx
      refine OpsJ.nilK (y := ilv x) (b := false) (.inr rfl) (by simp) (Tryz.ty26) (by simp [nzS, hx0]) (by simp) ?_
      refine OpsJ.go ?_
      simp
      refine CodeJ.go ?_
      simp
      refine ⟨_, Le.refl _ _, ?_⟩
      simp
      exact ⟨.tup [.ro (x.map iv), .val (.bool true), .val .nilIface], by simp, some x, ls x (hx.iff ss), fun x' h => (by cases h; rfl), fun h => by cases h⟩
    | emp b hl0 => exact absurd hl0 hL2
    | none hyn hx =>
      subst hyn
      refine OpsJ.nilK (y := .val (.slice none 0 0)) (b := true) (.inr rfl) (by simp) (Tryz.ty26) rfl (by simp) ?_
      refine OpsJ.go ?_
      simp
      refine CodeJ.go ?_
      simp
      refine CodeJ.go ?_
      simp
      exact ⟨i + 1, ⟨by omega, ln (hx.iff ss)⟩, by omega, Le.syn (by simp (disch := omega) [leS, hC, w64])⟩
  · obtain rfl : i = (gt p.values k).length := by omega
    refine CodeJ.go ?_
    simp
    refine ⟨_, Le.refl _ _, ?_⟩
    simp
    exact ⟨.tup [.val (.slice none 0 0), .val (.bool false), .val .nilIface], by simp, none, .none hno, fun x e => (by cases e), fun _ => rfl⟩
theorem qFirstE_ok (p : Puz) (hf : FewP p) (h : vPuz p ≠ 0) : PureF Tryz.prog 4 [puzV p] (.tup [.val (.slice none 0 0), .val (.bool false), erV (vPuz p)]) := by
  have gq := qValid_ok p hf
  refine pure_enterJ Tryz.func4 rfl (by simp) (fun C hC => ?_)
  refine CodeJ.seqI (CodeJ.regionI (OpsJ.go ?_))
  simp
  refine CodeJ.frz 0 rfl (by simp) ?_
  simp [frzS, tset]
  refine CodeJ.go ?_
  simp
  refine callS (gq) (by simp) ?_
  rcases vPuz_cases p with e | e | e
  · exact absurd e h
  · rw [e, erV_2]
    simp [erV_2]
  · rw [e, erV_4]
    simp [erV_4]
theorem qLeastE_ok (p : Puz) (hf : FewP p) (k : Int) (h : vPuz p ≠ 0) : PureF Tryz.prog 8 [puzV p, iv k] (.tup [.val (.slice none 0 0), .val (.bool false), erV (vPuz p)]) := by
  have gq := qValid_ok p hf
  refine pure_enterJ Tryz.func8 rfl (by simp) (fun C hC => ?_)
  refine CodeJ.seqI (CodeJ.regionI (OpsJ.go ?_))
  simp
  refine CodeJ.frz 0 rfl (by simp) ?_
  simp [frzS, tset]
  refine CodeJ.go ?_
  simp
  refine callS (gq) (by simp) ?_
  rcases vPuz_cases p with e | e | e
  · exact absurd e h
  · rw [e, erV_2]
    simp [erV_2]
  · rw [e, erV_4]
    simp [erV_4]
/-- of a variable that is not there -/
theorem qLeastO_ok (p : Puz) (hf : FewP p) (k : Int) (h : vPuz p = 0) (hk : k < 0 ∨ (p.values.length : Int) ≤ k) : PureF Tryz.prog 8 [puzV p, iv k] (.tup [.val (.slice none 0 0), .val (.bool false), erV 4]) := by
  have gq := qValid_ok p hf
  rw [h] at gq
  refine pure_enterJ Tryz.func8 rfl (by simp) (fun C hC => ?_)
  refine CodeJ.seqI (CodeJ.regionI (OpsJ.go ?_))
  simp
  refine CodeJ.frz 0 rfl (by simp) ?_
  simp [frzS, tset]
  refine CodeJ.go ?_
  simp
  refine callS (gq) (by simp) ?_
  by_cases k0 : k < 0
  · simp [erV_0, k0]
    refine CodeJ.draw (.qs [0, 1, 2, 3] <| .nil) (by kernel_rfl) (by kernel_rfl) (by simp) ?_
    simp [erV_4]
  · have k1 : (p.values.length : Int) ≤ k := by omega
    simp [erV_0, k0, k1]
    refine CodeJ.draw (.qs [0, 1, 2, 3] <| .nil) (by kernel_rfl) (by kernel_rfl) (by simp) ?_
    simp [erV_4]
set_option maxRecDepth 20000 in
set_option maxHeartbeats 1000000 in
theorem finiteFirst_ok (p : Puz) (k : Int) : PureE Tryz.prog 3 [puzV p, iv k] (fun z => z = .val (.bool true)) := by
  refine pureE_enter Tryz.func3 rfl (by simp) (fun C hC hX hE => ?_)
  refine CodeJ.seqI (CodeJ.regionI (OpsJ.go ?_))
  simp
  refine CodeJ.frz 0 rfl (by simp) ?_
  simp [frzS, tset]
  refine CodeJ.cutAt 2 (fun st => st = ⟨152, [(1, iv k), (2, .rop (puzV p) 0)], []⟩) ?_ ?_
  · simp only [takeC_succ, takeC_zero]
    simp
    refine callS (differ_ok) (by simp) ?_
    simp
    refine callP (qFirst_ok dif dif_ok dif_0) (SubL_self _ _ (by simp)) (fun y hy => ?_)
    obtain ⟨o, ho, o1, o2⟩ := hy
    obtain rfl := first_eq ho dif_first
    rw [o1 _ rfl]
    simp
    refine callFz 1 rfl (by simp) ?_
    simp
    refine callS (same_ok [1, 2, 3] (by decide)) (by simp) ?_
    simp
    simp [leS, hC]
  rintro st rfl
  simp only [dropC_succ, dropC_zero]
  refine CodeJ.cutAt 2 (fun st => FewP p ∧ st = ⟨152, [(1, iv k), (2, .rop (puzV p) 0)], []⟩) ?_ ?_
  · simp only [takeC_succ, takeC_zero]
    simp
    refine callP (few_ok p) (SubL_self _ _ (by simp)) (fun y hy => ?_)
    obtain ⟨f, rfl, hf⟩ := hy
    simp
    cases f with
    | false => simp
    | true =>
      have hf := hf rfl
      simp
      exact ⟨_, ⟨hf, rfl⟩, by simp [leS, hC]⟩
  rintro st ⟨hf, rfl⟩
  simp only [dropC_succ, dropC_zero]
  have gp := rPuzzleValid_ok p hf
  have h6 := hf.v
  by_cases h0 : vPuz p = 0
  · have hp := puz_ok hf h0
    rw [h0] at gp
    refine CodeJ.cutAt 1 (fun st => ∃ o x, FstO p o x ∧ st = ⟨152, [(1, iv k), (2, .rop (puzV p) 0), (5, x), (6, bov o.isSome), (7, .val .nilIface)], []⟩) ?_ ?_
    · simp only [takeC_succ, takeC_zero]
      simp
      refine callP (qFirst_ok p hp h0) (SubL_self _ _ (by simp)) (fun y hy => ?_)
      obtain ⟨o, ho, o1, o2⟩ := hy
      cases o with
      | some z =>
        rw [o1 z rfl]
        simp
        exact ⟨_, ⟨some z, ilv z, .some z rfl rfl ho, rfl⟩, by simp [leS, hC]⟩
      | none =>
        rw [o2 rfl]
        simp
        exact ⟨_, ⟨none, .val (.slice none 0 0), .none rfl rfl ho, rfl⟩, by simp [leS, hC]⟩
    rintro st ⟨o, x, hox, rfl⟩
    simp only [dropC_succ, dropC_zero]
    refine CodeJ.cutAt 1 (fun st => ∃ y s b, LeaO p k y s b ∧ st = ⟨152, [(1, iv k), (2, .rop (puzV p) 0), (5, x), (6, bov o.isSome), (7, .val .nilIface), (9, y), (10, bov s), (11, b)], []⟩) ?_ ?_
    · simp only [takeC_succ, takeC_zero]
      simp [-Bool.exists_bool]
      by_cases hk : 0 ≤ k ∧ k < p.values.length
      · obtain ⟨hk0, hk1⟩ := hk
        obtain ⟨n, rfl⟩ : ∃ n : Nat, k = n := ⟨k.toNat, by omega⟩
        have hn : n < p.values.length := by omega
        refine callP (qLeast_ok p hp h0 n hn) (SubL_self _ _ (by simp)) (fun y hy => ?_)
        obtain ⟨ol, hol, o1, o2⟩ := hy
        cases ol with
        | some z =>
          rw [o1 z rfl]
          simp [-Bool.exists_bool]
          exact ⟨_, ⟨ilv z, true, .val .nilIface, .some n rfl hn z rfl rfl rfl hol, rfl⟩, by cases hox <;> subst_vars <;> simp [leS, hC]⟩
        | none =>
          rw [o2 rfl]
          simp [-Bool.exists_bool]
          exact ⟨_, ⟨.val (.slice none 0 0), false, .val .nilIface, .none n rfl hn rfl rfl rfl hol, rfl⟩, by cases hox <;> subst_vars <;> simp [leS, hC]⟩
      · have gl := qLeastO_ok p hf k h0 (by omega)
        refine callS (gl) (by simp) ?_
        simp [-Bool.exists_bool]
        exact ⟨_, ⟨.val (.slice none 0 0), false, erV 4, .out (by omega) rfl rfl rfl, rfl⟩, by cases hox <;> subst_vars <;> simp [leS, hC]⟩
    rintro st ⟨y, s, b, hoy, rfl⟩
    simp only [dropC_succ, dropC_zero]
    have yl : ∀ m, y.lt m = true := fun m => by cases hoy <;> subst_vars <;> simp
    have bl : ∀ m, b.lt m = true := fun m => by cases hoy <;> subst_vars <;> simp
    refine CodeJ.cutAt 4 (fun st => st = ⟨152, [(1, iv k), (2, .rop (puzV p) 0), (9, y), (10, bov s), (11, b)], []⟩) ?_ ?_
    · simp only [takeC_succ, takeC_zero]
      simp
      refine callS (gp) (by simp) ?_
      simp
      refine callP (rFirst_ok p hp (-1) 0) (SubL_self _ _ (by simp)) (fun w hw => ?_)
      obtain ⟨o', ho', o1, o2⟩ := hw
      have ho'' := ho'.iff fun y => ext_sol (p := p) (y := y)
      cases hox with
      | some z e1 e2 hz =>
        subst e1 e2
        obtain rfl := first_eq ho'' hz
        rw [o1 z rfl]
        have zl : z.length = p.values.length := hz.1.len
        simp
        refine callS (same_ok z (by omega)) (by simp) ?_
        simp
        simp [leS, hC, yl, bl]
      | none e1 e2 hz =>
        subst e1 e2
        obtain rfl := first_eq ho'' hz
        rcases o2 rfl with e | ⟨u, e⟩
        all_goals
          rw [e]
          simp
          simp [leS, hC, yl, bl]
    rintro st rfl
    simp only [dropC_succ, dropC_zero]
    refine CodeJ.go ?_
    cases hoy with
    | some n ek hn z e2 e3 e4 hz =>
      subst ek e2 e3 e4
      have k0 : ¬ (n : Int) < 0 := by omega
      have k1 : ¬ (p.values.length : Int) ≤ n := by omega
      simp [k0, k1]
      refine callP (rLeast_ok p hp n hn) (SubL_self _ _ (by simp)) (fun w hw => ?_)
      obtain ⟨o', ho', o1, o2⟩ := hw
      obtain rfl := lst_eq ho' hz
      rw [o1 z rfl]
      have zl : z.length = p.values.length := lst_len hz
      simp
      refine callS (same_ok z (by omega)) (by simp) ?_
      simp
    | none n ek hn e2 e3 e4 hz =>
      subst ek e2 e3 e4
      have k0 : ¬ (n : Int) < 0 := by omega
      have k1 : ¬ (p.values.length : Int) ≤ n := by omega
      simp [k0, k1]
      refine callP (rLeast_ok p hp n hn) (SubL_self _ _ (by simp)) (fun w hw => ?_)
      obtain ⟨o', ho', o1, o2⟩ := hw
      obtain rfl := lst_eq ho' hz
      rw [o2 rfl]
      simp
      refine callNl ?_
      simp
      refine callS (same_ok [] (by decide)) (by simp) ?_
      simp
    | out hk e2 e3 e4 =>
      subst e2 e3 e4
      by_cases k0 : k < 0
      · simp [k0]
        refine callE (codedV_ok 4 (by omega) 4) hE hX (by simp) (fun z hz => ?_)
        subst hz
        simp
      · have k1 : (p.values.length : Int) ≤ k := by omega
        simp [k0, k1]
        refine callE (codedV_ok 4 (by omega) 4) hE hX (by simp) (fun z hz => ?_)
        subst hz
        simp
  · have gf := qFirstE_ok p hf h0
    have gl := qLeastE_ok p hf k h0
    have cs := vPuz_cases p
    generalize vPuz p = v at *
    have v0 : ¬ (v : Int) = 0 := by omega
    have vp : 0 < (v : Int) := by omega
    have vn : 0 < v := by omega
    refine CodeJ.go ?_
    simp
    refine callS (gf) (by simp) ?_
    simp
    refine callS (gl) (by simp) ?_
    simp
    refine callS (gp) (by simp) ?_
    simp [v0, vp, vn]
    refine callE (codedV_ok v (by omega) v) hE hX (by simp) (fun z hz => ?_)
    subst hz
    simp
    refine callE (codedV_ok v (by omega) v) hE hX (by simp) (fun z hz => ?_)
    subst hz
    simp
end Go.Proofs

