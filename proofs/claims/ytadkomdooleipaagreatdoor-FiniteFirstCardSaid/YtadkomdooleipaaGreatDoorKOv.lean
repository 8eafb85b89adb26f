/- An empty slice that is not nil: what the layer of symbolic values makes of it. A text of the prover's own; it names no program. The program's search: lists copied. The program's search for the first values that keep a puzzle. What First returns. What the law FiniteSound returns. A text of the prover's own. -/
import Derived.Test.YtadkomdooleipaaGreatDoorKAm
import Derived.Test.YtadkomdooleipaaGreatDoorKOn
import Derived.Test.YtadkomdooleipaaGreatDoorKAg
namespace Go.Sv
open Go Go.RowKit
section
variable {P : Program} {C : Ctx} {all : Array Oper} {rest : List Oper} {st : St} {R : Post}
/-- is it nil, where that is told? -/
def nzS : SV → Option Bool
  | .val (.slice none _ _) => some true
  | .val (.slice (some _) _ _) => some false
  | .view _ _ n => if n = 0 then none else some false
  | .ro es => if es = [] then none else some false
  | _ => none
theorem nzS_den {β : Bnd} {H : Hp} {x : SV} {u : Value} {b : Bool} (hd : Den β H x u) (h : nzS x = some b) : ∃ base n cp, u = .slice base n cp ∧ base.isNone = b := by
  unfold nzS at h
  split at h
  · simp only [Den] at hd
    exact ⟨_, _, _, hd.1, by simpa using h⟩
  · simp only [Den] at hd
    exact ⟨_, _, _, hd.1, by simpa using h⟩
  · split at h
    · cases h
    · rename_i hn
      simp only [Den] at hd
      rcases hd with ⟨_, _, he, _⟩ | ⟨d, c, o, _, _, _, _, hu⟩
      · exact absurd he hn
      · exact ⟨_, _, _, hu, by simpa using h⟩
  · split at h
    · cases h
    · rename_i hn
      simp only [Den] at hd
      rcases hd with ⟨he, _⟩ | ⟨_, _, _, _, _, _, hu, _⟩
      · exact absurd he hn
      · exact ⟨_, _, _, hu, by simpa using h⟩
  · cases h
/-- a slice held against nil, where it is told whether it is -/
theorem OpsJ.nilK {d : Option Nat} {x : Operand} {op : BinOp} (hop : op = .eql ∨ op = .neq) {t ty el : TypeId} {p : String} {af : Array Edge} {s0 b0 : Nat} {z0 : List SV} {y : SV} {b : Bool}
    (hx : ev st.fr x = some y) (ht : tyOf P t = some ⟨.sl el, s0, b0, z0⟩) (hy : nzS y = some b) (hd : dok d st.n)
    (h : OpsJ P C all rest ⟨st.n, putO d (some (.val (.bool (if op = .eql then b else !b)))) st.fr, st.M⟩ R) :
    OpsJ P C all (⟨d, .binOp op t x (.const (.slice none 0 0)) t, ty, p, af, none⟩ :: rest) st R := by
  rintro a w ⟨β, H, hF, hW⟩
  have hden := fOK_den hF x _ hx
  obtain ⟨i0, d0, zz0, hy0⟩ := tyOf_spec ht
  obtain rfl := tk_sl hy0.k
  obtain ⟨base, n, cp, hu, rfl⟩ := nzS_den hden hy
  have hrun : (execOp a.eval ⟨d, .binOp op t x (.const (.slice none 0 0)) t, ty, p, af, none⟩).run P w = .ok (.value (.bool (if op = .eql then base.isNone else !base.isNone))) w := by
    simp only [execOp, hu]
    rcases hop with rfl | rfl
    · simp [eqGuard, Act.eval, binOp, run_equal_slice_nil w t el base n cp hy0.under]
    · simp [eqGuard, Act.eval, binOp, run_equal_slice_nil w t el base n cp hy0.under]
  unfold wpList
  rw [if_pos (by simp [Region.wanted])]
  left
  simp only [Oper.wp, hrun, Oper.upon]
  exact h _ _ ⟨β, H, hF.putO hd (den_val rfl), hW⟩
/-- an empty literal is no nil slice -/
theorem OpsJ.lit0 {d : Option Nat} {t ty : TypeId} {p : String} {af : Array Edge} {c : Prop} {M' : Tab} {pk : List Nat} {r : Option SV} (h0 : evBuildSlice P st.M (tyOf P t) 0 [] = .m c M' pk r) (hd : dok d st.n)
    (h : ∀ b : Addr, OpsJ P C all rest ⟨st.n, putO d (some (.val (.slice (some b) 0 0))) st.fr, M'⟩ R) :
    OpsJ P C all (⟨d, .buildSlice t 0 #[], ty, p, af, none⟩ :: rest) st R := by
  rintro a w ⟨β, H, hF, hW⟩
  obtain ⟨-, y, dd, T, rfl, h1, bd, h2, -⟩ := evBuildSlice_ok hW (fun o => fOK_den hF o) (parts := #[]) (fr := st.fr) (ρ := a.eval) h0
  have hrun : (execOp a.eval ⟨d, .buildSlice t 0 #[], ty, p, af, none⟩).run P w = .ok (.value (.slice (some ⟨w.heap.size, 0, none⟩) 0 0)) (w.alloc (.cells dd T)) := by
    have h1' : (Instr.buildSlice t 0 #[]).run P w = .ok (.slice (some ⟨w.heap.size, 0, none⟩) 0 0) (w.alloc (.cells dd T)) := by simpa using h1
    simp [execOp, h1']
  unfold wpList
  rw [if_pos (by simp [Region.wanted])]
  left
  simp only [Oper.wp, hrun, Oper.upon]
  exact h ⟨w.heap.size, 0, none⟩ _ _ ⟨_, H, (hF.mono (upd_old hW _) (fun _ _ h => h)).putO hd (den_val rfl), h2⟩
end
/-- such a slice as a list without elements -/
def e0 : SV → SV
  | .val (.slice (some _) 0 0) => .ro []
  | x => x
@[simp] theorem e0_some {b : Addr} : e0 (.val (.slice (some b) 0 0)) = .ro [] := rfl
@[simp] theorem e0_agg {l : List SV} : e0 (.agg l) = .agg l := rfl
theorem e0_den {β : Bnd} {H : Hp} {x : SV} {v : Value} (h : Den β H x v) : Den β H (e0 x) v := by
  unfold e0
  split
  · simp only [Den] at h ⊢
    exact .inl ⟨by trivial, _, _, h.1⟩
  · exact h
theorem e0_denT {β : Bnd} {H : Hp} : ∀ {l : List SV} {vs : List Value}, DenT β H l vs → DenT β H (l.map e0) vs
  | [], vs, h => h
  | x :: l, vs, h => by
    simp only [DenT, List.map_cons] at h ⊢
    obtain ⟨v, r, rfl, h1, h2⟩ := h
    exact ⟨v, r, rfl, e0_den h1, e0_denT h2⟩
theorem callE0 {P : Program} {C : Ctx} {f : FuncId} {args : List SV} {M : Tab} {W : Option (List Nat)} {K : Tab → List Nat → SV → Prop} (h : CallJ P C f (args.map e0) M W K) : CallJ P C f args M W K :=
  fun β H w vals hd hW => h β H w vals (e0_denT hd) hW
/-- one of a frame's values told as a list without elements -/
theorem Le.e0 {C : Ctx} {st : St} : Le C st ⟨st.n, st.fr.map fun x => (x.1, Sv.e0 x.2), st.M⟩ := by
  rintro a w ⟨β, H, hF, hW⟩
  refine ⟨β, H, ⟨hF.1, hF.2.1, fun t x hg => ?_⟩, hW⟩
  have hg' : ∀ (fr : List (Nat × SV)), Go.Sv.get (fr.map fun x => (x.1, Sv.e0 x.2)) t = (Go.Sv.get fr t).map Sv.e0 := by
    intro fr
    induction fr with
    | nil => rfl
    | cons y fr ih =>
      obtain ⟨s, z⟩ := y
      simp only [List.map_cons, Go.Sv.get]
      split
      · rfl
      · exact ih
  rw [hg'] at hg
  obtain ⟨z, h1, rfl⟩ := Option.map_eq_some_iff.1 hg
  obtain ⟨v, h2, h3⟩ := hF.2.2 t z h1
  exact ⟨v, h2, e0_den h3⟩
end Go.Sv
namespace Go.Proofs
open Go.Sv Go Go.Tb Go.Pl Go.Ut Go.Fn
set_option maxRecDepth 10000 in
theorem slClone2_ok (L : Lf) (hl : L.length ≤ 1000) (h0 : L ≠ []) : EffC Tryz.prog 22 [.view 0 0 L.length] [some ⟨1, L.map ilv, false⟩] [] (fun T y => T = [some ⟨1, L.map ilv, false⟩, some ⟨1, L.map ilv, false⟩] ∧ y = .view 1 0 L.length) := by
  have hn : ¬ L.length = 0 := fun h => h0 (List.eq_nil_of_length_eq_zero h)
  refine eff_enterC Tryz.func22 rfl (by simp) (fun C hC => ?_)
  have hC : C.fx = [0] := hC
  refine CodeJ.seqI (CodeJ.regionI (OpsJ.go ?_))
  simp
  refine CodeJ.seqI (CodeJ.seqI (CodeJ.regionI (OpsJ.step rfl ?_)))
  simp
  refine OpsJ.nilK (y := .view 0 0 L.length) (b := false) (.inl rfl) (by simp) (Tryz.ty22) (by simp [nzS, hn]) (by simp) ?_
  refine OpsJ.go ?_
  simp
  refine CodeJ.condI false (by simp) (fun q => by cases q) (fun _ => ?_)
  refine CodeJ.go ?_
  simp
  refine CodeJ.go ?_
  simp
  exact ⟨⟨by simp [hC], by omega⟩, _, _, ⟨rfl, rfl⟩, rfl, by simp [leM], by simp, .inl rfl⟩
end Go.Proofs
namespace Go.Fn
open Go Go.Sv Go.Pl Go.Proofs Go.Tb Go.Ut
/-- lists below a puzzle's -/
structure Bel (p : Puz) (L : Lf) : Prop where
  len : L.length = p.values.length
  asc : AscL L
  l12 : ∀ k, k < L.length → (gt L k).length ≤ 12
  mem : ∀ k, k < p.values.length → ∀ v ∈ gt L k, v ∈ gt p.values k
theorem Bel.ok {p : Puz} {L : Lf} (hp : PuzOK p) (h : Bel p L) : PuzOK ⟨L, p.cons⟩ where
  few := ⟨by show L.length ≤ 6; rw [h.len]; exact hp.few.v, hp.few.c, fun l hl => by
    obtain ⟨j, hj, rfl⟩ := List.getElem_of_mem hl
    rw [gt_get hj]; exact h.l12 j hj, hp.few.k⟩
  asc := h.asc
  val := fun k hk v hv => hp.val k (by rw [← h.len]; exact hk) v (h.mem k (by rw [← h.len]; exact hk) v hv)
  con := fun c hc => by
    show ConOK L.length c
    rw [h.len]; exact hp.con c hc
theorem Bel.less {p : Puz} {L L' : Lf} (h : Bel p L) (hl : L'.length = L.length) (hs : ∀ k, k < L.length → (gt L' k).Sublist (gt L k)) : Bel p L' where
  len := hl.trans h.len
  asc := asc_sub h.asc hl hs
  l12 := fun k hk => Nat.le_trans (hs k (by omega)).length_le (h.l12 k (by omega))
  mem := fun k hk v hv => h.mem k hk v ((hs k (by rw [h.len]; exact hk)).subset hv)
theorem Bel.set {p : Puz} {L : Lf} (h : Bel p L) {k : Nat} (hk : k < L.length) {v : Int} (hv : v ∈ gt L k) : Bel p (L.set k [v]) := h.less (by simp) fun j hj => by
  rw [gt_setL hj]
  split
  · rename_i e; subst e; exact List.singleton_sublist.2 hv
  · exact List.Sublist.refl _
theorem sol_q {p : Puz} {A L : Lf} {x : List Int} : Sol ⟨A, p.cons⟩ L x ↔ Sol p L x := ⟨fun h => ⟨h.len, h.mem, h.con⟩, fun h => ⟨h.len, h.mem, h.con⟩⟩
/-- what the search returns -/
inductive FstY (p : Puz) (L : Lf) (y : SV) : Prop
  | some (x : List Int) (h0 : x ≠ []) (hy : y = ilv x) (h : IsFirst (Sol p L) (some x))
  | emp (b : Addr) (h0 : L = []) (hy : y = .val (.slice (some b) 0 0)) (h : IsFirst (Sol p L) (some []))
  | none (hy : y = .val (.slice none 0 0)) (h : IsFirst (Sol p L) none)
def FstQ (p : Puz) (L : Lf) (T : Tab) (y : SV) : Prop := ∃ L', T = NT p L' ∧ FstY p L y
theorem FstY.iff {p : Puz} {L L' : Lf} {y : SV} (h : FstY p L' y) (hl : L'.length = L.length) (e : ∀ x, Sol p L x ↔ Sol p L' x) : FstY p L y := by
  cases h with
  | some x h0 hy h => exact .some x h0 hy (h.iff fun y => (e y).symm)
  | emp b h0 hy h => exact .emp b (by subst h0; exact List.eq_nil_of_length_eq_zero hl.symm) hy (h.iff fun y => (e y).symm)
  | none hy h => exact .none hy (h.iff fun y => (e y).symm)
theorem keep_leaf {p : Puz} {L : Lf} (hB : Bel p L) (h1 : ∀ k, k < L.length → (gt L k).length = 1) : KeepsP p (L.map low) ↔ ∀ c ∈ p.cons, keptP c (argsOf c (L.map low)) := by
  refine ⟨fun h => h.con, fun h => ⟨fun i hi => ?_, h⟩⟩
  have hi' : i < L.length := by simpa using hi
  rw [gt_map _ hi']
  exact hB.mem i (by rw [← hB.len]; exact hi') _ (low_mem (fun e => by have := h1 i hi'; rw [e] at this; simp at this))
end Go.Fn
namespace Go.Proofs
open Go.Sv Go Go.Tb Go.Pl Go.Ut Go.Fn
set_option maxRecDepth 10000 in
set_option maxHeartbeats 2000000 in
theorem nFirst_ok (p : Puz) (hp : PuzOK p) (h0 : vPuz p = 0) : ∀ (d : Nat) (L0 : Lf), size L0 < d → Bel p L0 → EffC Tryz.prog 14 [.ptr 0 0 0] (NT p L0) [1] (FstQ p L0) := by
  intro d
  induction d with
  | zero => intro L0 h; omega
  | succ d ih =>
  intro L0 hd hB
  have hq := hB.ok hp
  have hp6 := hp.few.v
  have b0 := hB.len
  refine eff_enterC Tryz.func14 rfl (by simp) (fun C hC => ?_)
  have hC : C.fx = [0] := hC
  refine CodeJ.cutAt 3 (fun st => ∃ L, Bel p L ∧ L.length = L0.length ∧ (∀ y, Sol p L0 y ↔ Sol p L y) ∧ (∀ k, k < L.length → (gt L k).length = 1) ∧ st = ⟨91, [(0, .ptr 0 0 0)], NT p L⟩) ?_ ?_
  · simp only [takeC_succ, takeC_zero, NT, netV]
    simp
    refine callT (nNarrow_ok p L0 hq) [0, 1] (by simp) (by simp [NT, netV]) (by simp) (by simp [NT, netV, hC]) (by simp) ?_
    rintro T y ⟨L, ok, rfl, rfl, hN⟩
    have hLB := hB.less hN.len hN.sub
    have ll := hN.len
    simp [NT, netV]
    refine ⟨fun e => ?_, fun e => ?_⟩
    · subst e
      exact ⟨_, _, ⟨L, rfl, .none rfl fun y hy => by
        have := (sol_left hq.con hN (sol_q.2 hy)).1; cases this⟩, rfl, by simp [NT, netV, leM], by simp [NT], .inl rfl⟩
    subst e
    have hsol : ∀ y, Sol p L0 y ↔ Sol p L y := fun y => sol_q.symm.trans ((sol_nar hq.con hN).trans sol_q)
    have hne := (hN.yes rfl).1
    have sz : size L ≤ size L0 := (size_le hN.len hN.sub).1
    refine CodeJ.loop (ι := Nat) (fun k => ⟨91, [(0, .ptr 0 0 0), (20, .view 1 0 L.length), (21, iv L.length), (22, iv k)], NT p L⟩)
      (fun k => k ≤ L.length ∧ ∀ j, j < k → (gt L j).length = 1) (fun k => L.length - k) 0 ?_ ?_ ?_
    · exact ⟨Nat.zero_le _, fun j hj => by omega⟩
    · simp [leS, hC, NT, netV]
    rintro k ⟨hk, hone⟩
    simp only [NT, netV]
    by_cases hkl : k < L.length
    · have lk' := lget_ilv hkl
      have l12 := hLB.l12 k hkl
      by_cases h1 : (gt L k).length = 1
      · have h1' : ((gt L k).length : Int) = 1 := by omega
        simp (disch := omega) [hkl, lk', h1, h1']
        repeat (refine And.intro (by omega) ?_)
        exact ⟨k + 1, ⟨by omega, step_lt hone h1⟩, by omega, by simp (disch := omega) [leS, hC, w64, NT, netV]⟩
      · have h1' : ¬ ((gt L k).length : Int) = 1 := by omega
        have h2 : 2 ≤ (gt L k).length := by have := List.length_pos_iff.2 (hne k hkl); omega
        obtain ⟨l, hl⟩ : ∃ l, gt L k = l := ⟨_, rfl⟩
        rw [hl] at lk' l12 h1 h1' h2
        simp (disch := omega) [hkl, lk', h1, h1']
        repeat (refine And.intro (by omega) ?_)
        refine CodeJ.loopC (ι := Nat) (fun t => ⟨91, [(0, .ptr 0 0 0), (3, iv k), (30, ilv l), (31, iv l.length), (32, iv t)], NT p L⟩)
          (fun t => t ≤ l.length ∧ ∀ s, s < t → ∀ y, Sol p L y → gt y k ≠ gt l s) (fun t => l.length - t) 0 ?_ ?_ ?_
        · exact ⟨Nat.zero_le _, fun s hs => by omega⟩
        · simp [leS, hC, NT, netV]
        rintro t ⟨ht, hno⟩
        simp only [NT, netV]
        by_cases htl : t < l.length
        · obtain ⟨v, ev⟩ : ∃ v, gt l t = v := ⟨_, rfl⟩
          have lv := lget_iv htl
          have hv : v ∈ gt L k := by rw [hl, ← ev]; exact gt_mem htl
          rw [ev] at lv
          have hB2 := hLB.set hkl hv
          have sz2 := size_set hkl (v := v) (by rw [hl]; exact h2)
          have ss := fun y => sol_set (p := p) hkl hv (y := y)
          have gi := ih (L.set k [v]) (by omega) hB2
          have hL0 : L ≠ [] := fun h => by rw [h] at hkl; simp at hkl
          obtain ⟨L2, e2⟩ : ∃ L2, L.set k [v] = L2 := ⟨_, rfl⟩
          have l2 : L2.length = L.length := by rw [← e2]; simp
          rw [e2] at hB2 sz2 ss gi
          refine CodeJ.seqI (CodeJ.regionI (OpsJ.go ?_))
          simp
          refine CodeJ.seqI (CodeJ.condI true (by simp [htl]) (fun _ => ?_) (fun q => by cases q))
          refine CodeJ.go ?_
          simp
          refine CodeJ.seqI (CodeJ.blockI ?_)
          refine CodeJ.cutAt 4 (fun st => ∃ y, FstY p L2 y ∧ st = ⟨91, [(0, .ptr 0 0 0), (3, iv k), (8, y), (30, ilv l), (31, iv l.length), (32, iv t)], NT p L⟩) ?_ ?_
          · simp only [takeC_succ, takeC_zero]
            simp (disch := omega) [htl, lv]
            repeat (refine And.intro (by omega) ?_)
            refine CodeJ.draw (.qs [0, 1, 2] <| .q 3 [1] <| .qs [4, 5, 6, 7] <| .l 8 [1] <| .qs [9] <| .l 10 [] <| .qs [11] <| .nil) (by kernel_rfl) (by kernel_rfl) (by simp) ?_
            simp
            refine callT (slClone2_ok L (by omega) hL0) [1] (by simp) (by simp) (by simp) (by simp) (by simp) ?_
            rintro T y ⟨rfl, rfl⟩
            have sL : ∀ (es : List SV) (X : Lf), sbL 4 es (X.map ilv) = X.map ilv := fun es X => sbL_pure _ _ _ (by simp)
            have e3 : lset (L.map ilv) k (.ro [.val (.int .i64 v)]) = L2.map ilv := by rw [← e2, ← lset_ilv]; rfl
            have rr : ∀ σ, renL σ (L.map ilv) = L.map ilv := fun σ => renL_pure σ _ (by simp)
            simp (disch := omega) [hkl, lk', rr]
            repeat (refine And.intro (by omega) ?_)
            refine callFz 4 rfl (by simp) ?_
            simp [sL, e3]
            refine callT gi [3, 2] (by simp) (by simp [NT, netV, l2]) (by simp) (by simp [NT, netV, hC]) (by simp) ?_
            rintro T y ⟨L3, rfl, hy⟩
            have yr : ∀ σ, ren σ y = y := fun σ => by
              cases hy with
              | some x _ h => subst h; simp
              | emp b _ h => subst h; rfl
              | none h => subst h; rfl
            have yl : ∀ m, y.lt m = true := fun m => by
              cases hy with
              | some x _ h => subst h; simp
              | emp b _ h => subst h; rfl
              | none h => subst h; rfl
            simp [NT, netV, yr]
            exact ⟨_, ⟨y, hy, rfl⟩, by simp [leS, hC, NT, netV, yl]⟩
          rintro st ⟨y, hy, rfl⟩
          simp only [dropC_succ, dropC_zero, NT, netV]
          refine CodeJ.seqI (CodeJ.regionI (OpsJ.step rfl ?_))
          simp
          cases hy with
          | some x hx0 hyx hx =>
            subst hyx
            refine OpsJ.nilK (y := ilv x) (b := false) (.inr rfl) (by simp) (Tryz.ty26) (by simp [nzS, hx0]) (by simp) ?_
            refine OpsJ.go ?_
            simp
            refine CodeJ.go ?_
            simp
            have hx' := first_some (q := Sol p L) (n := k) (N := L.length) (l := l) (t := t) (by rw [← hl]; exact hLB.asc k hkl) (fun y hy => by rw [← hl]; exact hy.mem k hkl)
              (fun y y' hy hy' j hj => by
                have e1 := hy.mem j (by omega)
                have e2 := hy'.mem j (by omega)
                rw [one_of (hone j hj)] at e1 e2
                simp at e1 e2; rw [e1, e2]) (fun y hy => hy.len) hkl htl hno (x := x) (by rw [ev]; exact hx.iff ss)
            exact ⟨_, _, ⟨L, rfl, .some x hx0 rfl (hx'.iff fun y => (hsol y).symm)⟩, rfl, by simp [NT, netV, leM], by simp [NT], .inl rfl⟩
          | emp b hl0 => exact absurd (congrArg List.length hl0) (by rw [l2]; simp; exact hL0)
          | none hyn hx =>
            subst hyn
            refine OpsJ.nilK (y := .val (.slice none 0 0)) (b := true) (.inr rfl) (by simp) (Tryz.ty26) rfl (by simp) ?_
            refine OpsJ.go ?_
            simp
            refine CodeJ.go ?_
            simp
            refine CodeJ.go ?_
            simp
            exact ⟨t + 1, ⟨by omega, none_of hno (by rw [ev]; exact hx.iff ss)⟩, by omega, Le.syn (by simp (disch := omega) [leS, hC, w64, NT, netV])⟩
        · obtain rfl : t = l.length := by omega
          refine CodeJ.go ?_
          simp
          exact ⟨_, _, ⟨L, rfl, .none rfl ((first_none (q := Sol p L) (n := k) (l := l) (fun y hy => by rw [← hl]; exact hy.mem k hkl) hno).iff fun y => (hsol y).symm)⟩, rfl, by simp [NT, netV, leM], by simp [NT], .inl rfl⟩
    · obtain rfl : k = L.length := by omega
      simp
      exact ⟨_, ⟨L, hLB, ll, hsol, hone, rfl⟩, by simp [leS, hC, NT, netV]⟩
  rintro st ⟨L, hLB, ll, hsol, hone, rfl⟩
  have kl := keep_leaf hLB hone
  have fl := fun (b : Bool) (hb : b = true ↔ KeepsP p (L.map low)) => (first_leaf (p := p) hone b (hb.trans kl)).iff fun y => (hsol y).symm
  simp only [dropC_succ, dropC_zero, NT, netV]
  by_cases hL0 : L = []
  · refine CodeJ.seqI (CodeJ.regionI (OpsJ.lit0 (by rw [Tryz.ty26, bs_some, Tryz.ty3]; rfl) (by simp) (fun b => ?_)))
    refine OpsJ.go ?_
    simp
    refine CodeJ.go ?_
    subst hL0
    simp
    refine CodeJ.loop (ι := Nat) (fun _ => ⟨91, [(0, .ptr 0 0 0), (9, .val (.slice (some b) 0 0)), (67, iv 0), (68, iv 0)], NT p []⟩)
      (fun _ => True) (fun i => i) 0 trivial ?_ ?_
    · simp [leS, hC, NT, netV]
    rintro i hi
    simp only [NT, netV]
    simp
    refine callE0 ?_
    simp
    refine callP (qKeeps_ok p hp h0 [] (by rw [← hLB.len]; rfl)) (SubL_self _ _ (by simp)) (fun y hy => ?_)
    obtain ⟨r, rfl, hr⟩ := hy
    have fl' := fl r hr
    simp
    refine ⟨fun e => ?_, fun e => ?_⟩
    · subst e
      exact ⟨_, _, ⟨[], rfl, .none rfl fl'⟩, rfl, by simp [NT, netV, leM], by simp [NT], .inl rfl⟩
    · subst e
      exact ⟨_, _, ⟨[], rfl, .emp b (List.eq_nil_of_length_eq_zero ll.symm) rfl fl'⟩, rfl, by simp [NT, netV, leM], by simp [NT], .inl rfl⟩
  · refine CodeJ.wk ?_
    refine CodeJ.go ?_
    simp
    refine CodeJ.loop (ι := LW1) (fun ⟨i, w⟩ => ⟨91, [(0, .ptr 0 0 0), (9, .view 2 0 w.length), (66, .view 1 0 L.length), (67, iv L.length), (68, iv i)], NT p L ++ [some ⟨1, w.map iv, false⟩]⟩)
      (fun ⟨i, w⟩ => i ≤ L.length ∧ w = (L.map low).take i ∧ w.length = i) (fun ⟨i, w⟩ => L.length - i) ⟨0, []⟩ ?_ ?_ ?_
    · exact ⟨Nat.zero_le _, by simp, rfl⟩
    · simp [leS, hC, NT, netV]
    rintro ⟨i, w⟩ ⟨hi, hw, hwl⟩
    simp only [NT, netV, List.cons_append, List.nil_append]
    by_cases hlt : i < L.length
    · have lk' := lget_ilv hlt
      have h1 := hone i hlt
      have ll0 := lget_iv (l := gt L i) (i := 0) (by omega)
      have elo : gt (gt L i) 0 = low (gt L i) := rfl
      rw [elo] at ll0
      have h1p : 0 < (gt L i).length := by omega
      have tk : (L.map low).take (i + 1) = w ++ [low (gt L i)] := by
        rw [hw, take_gt (by simpa using hlt), gt_map _ hlt]
      generalize low (gt L i) = v at *
      generalize gt L i = l at *
      simp (disch := omega) [hlt, lk', ll0, h1, h1p, hwl]
      repeat (refine And.intro (by omega) ?_)
      exact ⟨⟨by simp [hC], by omega⟩, ⟨i + 1, w ++ [v]⟩, ⟨hlt, tk.symm, by simp [hwl]⟩, Nat.sub_succ_lt_self _ _ hlt, by simp (disch := omega) [leS, hC, w64, NT, netV, hwl]⟩
    · obtain rfl : i = L.length := by omega
      have hwx : w = L.map low := by rw [hw]; exact List.take_of_length_le (by simp)
      simp
      refine callFz 2 rfl (by simp) ?_
      simp
      refine callP (qKeeps_ok p hp h0 w (by rw [hwx]; simp; exact hLB.len)) (SubL_self _ _ (by simp)) (fun y hy => ?_)
      obtain ⟨r, rfl, hr⟩ := hy
      rw [hwx] at hr
      have fl' := fl r hr
      simp
      refine ⟨fun e => ?_, fun e => ?_⟩
      · subst e
        refine ⟨_, Le.refl _ _, ?_⟩
        simp
        exact ⟨_, _, ⟨L, rfl, .none rfl fl'⟩, rfl, by simp [NT, netV, leM], by simp [NT], .inr ⟨rfl, by simp [NT, netV, ltM]⟩⟩
      · subst e
        refine ⟨_, Le.frz 2 rfl (by simp), ?_⟩
        simp [frzS, tset]
        exact ⟨_, _, ⟨L, rfl, .some w (fun h => hL0 (List.eq_nil_of_length_eq_zero (by rw [← hwl, h]; rfl))) rfl (by rw [hwx]; exact fl')⟩, rfl, by simp [NT, netV, leM], by simp [NT], .inr ⟨by simp, by simp [NT, netV, ltM]⟩⟩
end Go.Proofs
namespace Go.Fn
open Go Go.Sv Go.Pl Go.Proofs Go.Tb Go.Ut
def QFstQ (p : Puz) (y : SV) : Prop := ∃ o : Option (List Int), IsFirst (Sol p p.values) o ∧ (∀ x, o = some x → y = .tup [ilv x, .val (.bool true), .val .nilIface]) ∧ (o = none → y = .tup [.val (.slice none 0 0), .val (.bool false), .val .nilIface])
theorem bel_0 {p : Puz} (hp : PuzOK p) : Bel p p.values := ⟨rfl, hp.asc, fun k hk => hp.few.l _ (gt_mem hk), fun _ _ _ h => h⟩
end Go.Fn
namespace Go.Proofs
open Go.Sv Go Go.Tb Go.Pl Go.Ut Go.Fn
set_option maxRecDepth 10000 in
theorem qFirst_ok (p : Puz) (hp : PuzOK p) (h0 : vPuz p = 0) : PureC Tryz.prog 4 [puzV p] (QFstQ p) := by
  have gq := qValid_ok p hp.few
  rw [h0] at gq
  refine pure_enterJ Tryz.func4 rfl (by simp) (fun C hC => ?_)
  refine CodeJ.wk ?_
  refine CodeJ.seqI (CodeJ.regionI (OpsJ.go ?_))
  simp
  refine CodeJ.frz 0 rfl (by simp) ?_
  simp [frzS, tset]
  refine CodeJ.cutAt 2 (fun st => ∃ y, FstY p p.values y ∧ st = ⟨18, [(6, y)], []⟩) ?_ ?_
  · simp only [takeC_succ, takeC_zero]
    simp
    refine callS (gq) (by simp) ?_
    simp [erV_0]
    refine callT (nFresh_ok hp) [] (by simp) (by simp) (by simp) (by simp) (by simp) ?_
    rintro T y ⟨rfl, rfl⟩
    simp [NT, netV]
    refine callT (nFirst_ok p hp h0 _ p.values (Nat.lt_succ_self _) (bel_0 hp)) [1, 2] (by simp) (by simp [NT, netV]) (by simp) (by simp [NT, netV, hC]) (by simp) ?_
    rintro T y ⟨L, rfl, hy⟩
    have yr : ∀ σ, ren σ y = y := fun σ => by
      cases hy with
      | some x _ h => subst h; simp
      | emp b _ h => subst h; rfl
      | none h => subst h; rfl
    have yl : ∀ m, y.lt m = true := fun m => by
      cases hy with
      | some x _ h => subst h; simp
      | emp b _ h => subst h; rfl
      | none h => subst h; rfl
    simp [NT, netV, yr]
    exact ⟨_, ⟨y, hy, rfl⟩, by simp [leS, hC, NT, netV, yl]⟩
  rintro st ⟨y, hy, rfl⟩
  simp only [dropC_succ, dropC_zero]
  refine CodeJ.seqI (CodeJ.regionI (OpsJ.step rfl ?_))
  simp
  refine OpsJ.step rfl ?_
  simp
  cases hy with
  | some x hx0 hyx hx =>
    subst hyx
    refine OpsJ.nilK (y := ilv x) (b := false) (.inr rfl) (by simp) (Tryz.ty26) (by simp [nzS, hx0]) (by simp) ?_
    refine OpsJ.go ?_
    simp
    refine CodeJ.go ?_
    simp
    refine ⟨_, Le.refl _ _, ?_⟩
    simp
    exact ⟨_, Sub_self _ _ (by simp), some x, hx, fun x' h => (by cases h; rfl), fun h => by cases h⟩
  | emp b hl0 hyx hx =>
    subst hyx
    refine OpsJ.nilK (y := .val (.slice (some b) 0 0)) (b := false) (.inr rfl) (by simp) (Tryz.ty26) rfl (by simp) ?_
    refine OpsJ.go ?_
    simp
    refine CodeJ.go ?_
    simp
    refine ⟨_, Le.e0, ?_⟩
    simp [e0]
    exact ⟨_, Sub_self _ _ (by simp), some [], hx, fun x' h => (by cases h; rfl), fun h => by cases h⟩
  | none hyx hx =>
    subst hyx
    refine OpsJ.nilK (y := .val (.slice none 0 0)) (b := true) (.inr rfl) (by simp) (Tryz.ty26) rfl (by simp) ?_
    refine OpsJ.go ?_
    simp
    refine CodeJ.go ?_
    simp
    refine ⟨_, Le.refl _ _, ?_⟩
    simp
    exact ⟨_, Sub_self _ _ (by simp), none, hx, fun x' h => (by cases h), fun _ => rfl⟩
end Go.Proofs
namespace Go.Proofs
open Go.Sv Go Go.Tb Go.Pl Go.Ut Go.Fn
end Go.Proofs

