/- The road from a contract about symbolic values to the statement of a law: what the listed package variables give, and what is asked behind the call. The errors of package api that the rows list: what is known of memory when a call begins, and a world that holds them. From laid package variables to what the walks of errors.Is and errors.As ask of the world. The road from a contract about symbolic values to the statement of a law whose arguments are plain data in memory. A text of the prover's own. -/
import Derived.Test.YtadkomdooleipaaGreatDoorKEs
import Derived.Test.YtadkomdooleipaaGreatDoorRows
import Derived.ChangeSame
import Derived.ChangeMaps5
import Derived.RowKit
import Derived.LaidLaws
import Derived.WalkKit
import Derived.ProofKit
import Derived.OpenShut
import Derived.Deep.DeepHandedRow
import Derived.Deep.DeepWitnessRowRef
import Derived.LaidHandle
import Derived.Test.YtadkomdooleipaaGreatDoorKDa
namespace Go.Proofs
open Go Go.Sv Go.ChangeShapes Go.WideShapes Go.RowKit

theorem post_below {H : Type} {enc : TypeId × Value → H} {P : Program} {f : Func} {s : ChangeSpec} {apart fresh handsOn again : Bool} {W W' : World} {args : Array Value} {v : Value} {ds gs : List (DataW H)} {before pa pv : List MemPlace}
    (hW : DataW.Whole enc P f.params.toList s.vars apart W args.toList ds gs before) (hB : Below W.heap.size W W')
    (hres : ∀ (b : Nat) (sp : Nat → Bool) (hd : Bool), DataW.TrodAll enc P W' b sp hd f.resultTypes.toList (v.resultList f.resultTypes.size) (s.fn H (ds ++ gs)).results [])
    (hargs : ∀ sp : Nat → Bool, (∀ p ∈ before, sp p.block = true) → DataW.TrodAll enc P W' 0 sp true f.params.toList args.toList (s.fn H (ds ++ gs)).args pa)
    (hvars : ∀ sp : Nat → Bool, (∀ p ∈ before, sp p.block = true) → DataW.TrodVars enc P W' sp s.vars (s.fn H (ds ++ gs)).vars pv)
    (hps : before = pa ++ pv)
    (hok : ∀ (j : Nat) (t : TypeId) (r : Value), f.resultTypes[j]? = some t → (v.resultList f.resultTypes.size)[j]? = some r → Value.okWide P W' .any 0 t r) :
    s.post enc P f apart fresh handsOn again W args v W' := by
  have lt : ∀ p ∈ before, p.block < W.heap.size := fun p hp => hW.lt p hp
  have all : ∀ p ∈ before, (fun b => decide (b < W.heap.size)) p.block = true := fun p hp => by simpa using lt p hp
  refine ⟨ds, gs, before, [], pa, pv, hW, hres _ _ _, hargs _ all, hvars _ all, hB.frame _, fun _ => ?_⟩
  obtain ⟨_, _, _, _, _, nf, nd⟩ := hW
  have e : ([] ++ pa) ++ pv = before := by rw [hps]; simp
  refine ⟨hok, _, _, ([] ++ pa) ++ pv, ⟨[] ++ pa, pv, trodAll_append (hargs _ (fun _ _ => rfl)) (hres _ _ _), hvars _ (fun _ _ => rfl), rfl, ?_, ?_⟩, ?_⟩
  · intro b off hp
    rw [e] at hp
    have hb : b < W.heap.size := lt _ hp
    rw [hB.frozen (p := ⟨b, off, none⟩) hb]
    exact nf b off hp
  · intro ha
    rw [e]
    exact nd ha
  · intro p hp _
    rw [e] at hp
    exact hp

/-- one of a list without repeats -/
theorem nodup_map {α β : Type} {f : α → β} : ∀ {l : List α}, (l.map f).Nodup → ∀ {p q}, p ∈ l → q ∈ l → f p = f q → p = q
  | [], _, _, _, h, _, _ => by cases h
  | a :: l, hn, p, q, hp, hq, e => by
    rw [List.map_cons, List.nodup_cons] at hn
    rcases List.mem_cons.1 hp with h1 | h1 <;> rcases List.mem_cons.1 hq with h2 | h2
    · rw [h1, h2]
    · exact absurd (List.mem_map.2 ⟨_, h2, by rw [← e, h1]⟩) hn.1
    · exact absurd (List.mem_map.2 ⟨_, h1, by rw [e, h2]⟩) hn.1
    · exact nodup_map hn.2 h1 h2 e

section
variable {P : Program} {W : World} {ti tp te ts : TypeId} {ms : Array (String × TypeId)} {f : Field} {nm : String}
/-- the listed errors: each variable holds a pointer of its own -/
theorem laid_sens (hi : P.underlying ti = some (.interface ms)) (hrow : ∀ u, P.typeName? 3 u = some nm → u = tp)
    (hp : P.underlying tp = some (.pointer te)) (he : P.underlying te = some (.struct #[f])) (hft : f.type = ts) (hfo : f.offset = 0) (hs : P.underlying ts = some .string) (hc : P.cellsOf te = 1) (hcs : P.cellsOf ts = 1) :
    ∀ (l : List (String × Nat × List UInt8)) {ps : List MemPlace}, DataW.LaidVars P W (l.map fun x => (x.1, .iface nm (.ptr (.agg [.lit (.string x.2.2)])))) ps →
    (∀ x ∈ l, P.globalNamed x.1 = some x.2.1 ∧ (P.globals[x.2.1]?).map (·.type) = some ti) →
    (∀ b off, MemPlace.cell b off ∈ ps → (∃ c t, W.heap[b]? = some (.cells c t (0, 0))) ∧ ∀ u v, W.cell? ⟨b, off, none⟩ = some (.iface u v) → Value.okWide P W .any 0 u v) →
    ∃ A : List (Nat × Addr), A.map (·.1) = l.map (·.2.1) ∧ (∀ p ∈ A, ∃ T z, W.heap[p.1]? = some (.cells #[.iface tp (.pointer (some p.2))] T z)) ∧
      List.Sublist (A.map fun p => MemPlace.cell p.2.block p.2.off) ps := by
  intro l
  induction l with
  | nil => intro _ _ _ _; exact ⟨[], rfl, by simp, by simp⟩
  | cons x l ih =>
    intro ps h hg hr
    obtain ⟨g, t, cs, fuel, p, q, h1, h2, h3, h4, h5, rfl⟩ := h
    obtain ⟨g1, g2⟩ := hg x (List.mem_cons_self ..)
    obtain rfl := Option.some.inj (h1.symm.trans g1)
    obtain rfl := Option.some.inj (h2.symm.trans g2)
    obtain ⟨A, a1, a2, a3⟩ := ih h5 (fun y hy => hg y (List.mem_cons_of_mem _ hy)) (fun b off hb => hr b off (by simp [hb]))
    obtain ⟨cl⟩ := cs
    obtain ⟨a, s, e1, e2, e3, e4, e5⟩ := errorString_of_trod hi hrow hp he hft hfo hs hc hcs h4 (fun u v e => by
      have e' : cl = [.iface u v] := e
      subst e'
      exact (hr x.2.1 0 (by simp [MemPlace.row])).2 u v (by simpa using World.var?_cell h1 h3 0))
    have e1' : cl = [.iface tp (.pointer (some a))] := e1
    subst e1'
    refine ⟨(x.2.1, a) :: A, by simp [a1], ?_, ?_⟩
    · rintro y hy
      rcases List.mem_cons.1 hy with rfl | hy
      · simp only [World.var?, h1, Option.bind_some] at h3
        split at h3
        · rename_i c T z hh
          exact ⟨T, z, by rw [hh]; simp only [Option.some.injEq] at h3; rw [h3]⟩
        · cases h3
      · exact a2 y hy
    · rw [List.map_cons, e5, List.append_assoc]
      refine List.Sublist.trans ?_ (List.sublist_append_right _ _)
      simpa [MemPlace.row] using a3
end

/-- what is known of memory at the start: what the variables hold -/
def H0of (W : World) : Hp := fun b => if sens.contains b then (match W.heap[b]? with | some (.cells cs _ _) => some cs | _ => none) else none
theorem gok_of {W : World} {A : List (Nat × Addr)} {ps : List MemPlace} (h1 : A.map (·.1) = sens) (h2 : ∀ p ∈ A, ∃ T z, W.heap[p.1]? = some (.cells #[.iface sent (.pointer (some p.2))] T z))
    (h3 : List.Sublist (A.map fun p => MemPlace.cell p.2.block p.2.off) ps) (h4 : ps.Nodup) : InvH (H0of W) W := by
  have at_ : ∀ g, g ∈ sens → ∃ a, (g, a) ∈ A ∧ H0of W g = some #[.iface sent (.pointer (some a))] := fun g hg => by
    rw [← h1] at hg
    obtain ⟨⟨g', a⟩, hp, rfl⟩ := List.mem_map.1 hg
    obtain ⟨T, z, hh⟩ := h2 _ hp
    refine ⟨a, hp, ?_⟩
    have hg' : sens.contains g' = true := List.contains_iff_mem.2 (by rw [← h1]; exact List.mem_map.2 ⟨_, hp, rfl⟩)
    simp only at hh
    simp only [H0of, hg', if_true, hh]
  refine ⟨fun b cs hb => ?_, ⟨fun g x hx => ?_, fun t g t' g' e1 e2 hne he => ?_⟩⟩
  · unfold H0of at hb
    split at hb
    · split at hb
      · rename_i c T z hh
        simp only [Option.some.injEq] at hb
        subst hb
        exact ⟨T, z, hh⟩
      · cases hb
    · cases hb
  · unfold gl at hx
    split at hx
    · rename_i hg
      simp only [Option.some.injEq] at hx
      subst hx
      obtain ⟨a, _, ha⟩ := at_ g (List.contains_iff_mem.1 hg)
      refine ⟨.iface sent (.pointer (some a)), ?_, ?_⟩
      · simp only [Den]; exact ⟨a, ha, rfl⟩
      · rw [ha]; rfl
    · cases hx
  · unfold gl at e1 e2
    split at e1
    · split at e2
      · rename_i hg hg'
        obtain ⟨a, ma, ha⟩ := at_ g (List.contains_iff_mem.1 (by simpa using hg))
        obtain ⟨a', ma', ha'⟩ := at_ g' (List.contains_iff_mem.1 (by simpa using hg'))
        rw [ha, ha'] at he
        simp only [Option.some.injEq, Array.mk.injEq, List.cons.injEq, Value.iface.injEq, Value.pointer.injEq, and_true, true_and] at he
        subst he
        exact hne (Prod.mk.inj (nodup_map (List.Nodup.sublist h3 h4) ma ma' rfl)).1
      · cases e2
    · cases e1

end Go.Proofs
namespace Go.Proofs
open Go Go.Sv Go.ChangeShapes Go.WideShapes Go.RowKit
/-- the listed errors: name, number, text -/
def sents : List (String × Nat × List UInt8) := [("optima/api.ErrText", 2, [111, 112, 116, 105, 109, 97, 58, 32, 116, 101, 120, 116]), ("optima/api.ErrBound", 1, [111, 112, 116, 105, 109, 97, 58, 32, 98, 111, 117, 110, 100]), ("optima/api.ErrZero", 3, [111, 112, 116, 105, 109, 97, 58, 32, 122, 101, 114, 111]), ("optima/api.ErrShape", 0, [111, 112, 116, 105, 109, 97, 58, 32, 115, 104, 97, 112, 101]), ("optima/api.ErrSingular", 4, [111, 112, 116, 105, 109, 97, 58, 32, 115, 105, 110, 103, 117, 108, 97, 114]), ("optima/api.ErrSense", 5, [111, 112, 116, 105, 109, 97, 58, 32, 115, 101, 110, 115, 101]), ("optima/api.ErrName", 6, [111, 112, 116, 105, 109, 97, 58, 32, 110, 97, 109, 101]), ("optima/api.ErrNumber", 7, [111, 112, 116, 105, 109, 97, 58, 32, 110, 117, 109, 98, 101, 114]), ("optima/api.ErrBasis", 8, [111, 112, 116, 105, 109, 97, 58, 32, 98, 97, 115, 105, 115]), ("optima/api.ErrOpen", 9, [111, 112, 116, 105, 109, 97, 58, 32, 111, 112, 101, 110])]
def sentData : List (String × DataW Unit) := sents.map fun x => (x.1, .iface "*errors.errorString" (.ptr (.agg [.lit (.string x.2.2)])))
theorem Tryz.cells169 : Tryz.prog.cellsOf 169 = 1 := by kernel_rfl
theorem Tryz.cells9 : Tryz.prog.cellsOf 9 = 1 := by kernel_rfl
theorem Tryz.rowErr (u : TypeId) (h : Tryz.prog.typeName? 3 u = some "*errors.errorString") : u = 139 :=
  typeName_ptr_named (nm := "errors.errorString") (by rw [show "*" ++ "errors.errorString" = "*errors.errorString" by decide]; kernel_rfl) (by kernel_rfl) (by decide) u (by rw [show "*" ++ "errors.errorString" = "*errors.errorString" by decide]; exact h)
theorem Tryz.sents_named : ∀ x ∈ sents, Tryz.prog.globalNamed x.1 = some x.2.1 ∧ (Tryz.prog.globals[x.2.1]?).map (·.type) = some 28 := by
  have h : sents.all (fun x => decide (Tryz.prog.globalNamed x.1 = some x.2.1) && decide ((Tryz.prog.globals[x.2.1]?).map (·.type) = some 28)) = true := by kernel_rfl
  intro x hx
  have := List.all_eq_true.1 h x hx
  simpa using this
theorem Tryz.inv_of_laid {W : World} (h : laidMet Tryz.prog sentData W) : InvH (H0of W) W := by
  obtain ⟨ps, h1, h2, h3⟩ := h
  obtain ⟨A, a1, a2, a3⟩ := laid_sens Tryz.underlying28 Tryz.rowErr Tryz.underlying139 Tryz.underlying169 rfl rfl Tryz.underlying9 Tryz.cells169 Tryz.cells9 sents h1 Tryz.sents_named h3
  exact gok_of (by rw [a1]; rfl) a2 a3 h2
noncomputable def Tryz.low : Nat := (World.holding Tryz.prog default ⟨#[], #[], []⟩).heap.size
/-- a world for the witness: the settled one, the errors laid -/
noncomputable def Tryz.laidWorld (os : Os) : World :=
  let w0 := World.holding Tryz.prog os ⟨(sents.map fun x => Obj.cells #[.string ⟨x.2.2.toArray⟩] 169).toArray, #[], []⟩
  { w0 with heap := sents.zipIdx.foldl (fun h x => h.modify x.1.2.1 fun
            | .cells _ t frozen => .cells #[.iface 139 (.pointer (some ⟨Tryz.low + x.2, 0, none⟩))] t frozen
            | o => o) w0.heap }
end Go.Proofs
namespace Go.Proofs
open Go Go.Sv Go.ChangeShapes Go.WideShapes Go.RowKit
theorem Tryz.et : Tryz.prog.globalNamed "errors.errorType" = some 10 := by kernel_rfl
theorem Tryz.rt : (Tryz.prog.cutTypes.find? (·.1 == "internal/reflectlite.rtype")).map (·.2) = some 100 := by kernel_rfl
theorem Tryz.oneRow : ((List.range 181).filter fun t => Tryz.prog.rowNamed t [101, 114, 114, 111, 114]) = [28] := by kernel_rfl
theorem Tryz.tsize : Tryz.prog.types.size = 181 := by kernel_rfl
theorem eok_of {W : World} {A : List (Nat × Addr)} {ps : List MemPlace} (h1 : A.map (·.1) = sens) (h2 : ∀ p ∈ A, ∃ T z, W.heap[p.1]? = some (.cells #[.iface sent (.pointer (some p.2))] T z))
    (h3 : List.Sublist (A.map fun p => MemPlace.cell p.2.block p.2.off) ps) (hr : ∀ b off, MemPlace.cell b off ∈ ps → ∃ c t, W.heap[b]? = some (.cells c t (0, 0)))
    (hh : W.cell? ⟨10, 0, none⟩ = some (.iface 100 (.agg #[.pointer (some ⟨11, 28, none⟩)]))) : EOK W := by
  refine ⟨fun g hg => ?_, hh⟩
  have hg := List.contains_iff_mem.1 hg
  rw [← h1] at hg
  obtain ⟨⟨g', a⟩, hp, rfl⟩ := List.mem_map.1 hg
  obtain ⟨T, z, e1⟩ := h2 _ hp
  obtain ⟨c, t, e2⟩ := hr a.block a.off (h3.subset (List.mem_map.2 ⟨_, hp, rfl⟩))
  exact ⟨a, T, z, c, t, e1, e2⟩
theorem laidMetH_split {P : Program} {l s : List (String × DataW Unit)} {a : String × DataW Unit} {W : World} (h1 : (l.filter fun x => x.2.handleName?.isSome) = [a]) (h2 : (l.filter fun x => x.2.handleName?.isNone) = s) (h : laidMetH P l W) : laidMet P s W ∧ handlesMet P [a] W := by
  unfold laidMetH at h
  rw [h1, h2] at h
  exact h
theorem Tryz.eok_of_laid {W : World} (h : laidMetH Tryz.prog YtadkomdooleipaaGreatDoor.Rows.finiteFirstRow.laid W) : InvH (H0of W) W ∧ EOK W := by
  obtain ⟨hl, hh⟩ := laidMetH_split (l := YtadkomdooleipaaGreatDoor.Rows.finiteFirstRow.laid) (a := ("errors.errorType", YtadkomdooleipaaGreatDoor.Rows.laid_errors_errorType)) (s := sentData) (by kernel_rfl) (by kernel_rfl) h
  refine ⟨Tryz.inv_of_laid hl, ?_⟩
  obtain ⟨ps, h1, h2, h3⟩ := hl
  obtain ⟨A, a1, a2, a3⟩ := laid_sens Tryz.underlying28 Tryz.rowErr Tryz.underlying139 Tryz.underlying169 rfl rfl Tryz.underlying9 Tryz.cells169 Tryz.cells9 sents h1 Tryz.sents_named h3
  refine eok_of (by rw [a1]; rfl) a2 a3 (fun b off hb => (h3 b off hb).1) ?_
  obtain ⟨name, u, ty, e1, e2, e3, e4, e5⟩ := hh _ (List.mem_singleton.2 rfl)
  have en : name = [101, 114, 114, 111, 114] := (Option.some.inj e1).symm
  subst en
  obtain rfl := Option.some.inj (Tryz.rt.symm.trans e2)
  have hm : ty ∈ (List.range 181).filter fun t => Tryz.prog.rowNamed t [101, 114, 114, 111, 114] := List.mem_filter.2 ⟨List.mem_range.2 (by rw [← Tryz.tsize]; exact e3), e4⟩
  rw [Tryz.oneRow] at hm
  obtain rfl := List.mem_singleton.1 hm
  have hth : typeHandle Tryz.prog 28 = .pointer (some ⟨11, 28, none⟩) := by kernel_rfl
  rw [hth] at e5
  simpa using World.var?_cell Tryz.et e5 0
/-- a world for the witness: the errors laid, and errors.errorType -/
noncomputable def Tryz.laidWorldE (os : Os) : World :=
  { Tryz.laidWorld os with heap := (Tryz.laidWorld os).heap.modify 10 fun
      | .cells _ t frozen => .cells #[.iface 100 (.agg #[.pointer (some ⟨11, 28, none⟩)])] t frozen
      | o => o }
end Go.Proofs
namespace Go.Proofs
open Go Go.Sv Go.ChangeShapes Go.WideShapes Go.RowKit
theorem inv_all {W : World} (h : InvH (H0of W) W) : InvH (Hall W) W := by
  refine ⟨fun b cs hb => ?_, h.2.mono fun b cs hb => ?_⟩
  · unfold Hall at hb
    split at hb
    · rename_i c T z hh
      simp only [Option.some.injEq] at hb
      subst hb
      exact ⟨T, z, hh⟩
    · cases hb
  · unfold H0of at hb
    split at hb
    · split at hb
      · rename_i c T z hh
        simp only [Option.some.injEq] at hb
        subst hb
        simp [Hall, hh]
      · cases hb
    · cases hb
theorem denT_cons {β : Bnd} {H : Hp} {x : SV} {v : Value} {l : List SV} {vs : List Value} (h : Den β H x v) (h' : DenT β H l vs) : DenT β H (x :: l) (v :: vs) := by
  simp only [DenT]; exact ⟨v, vs, rfl, h, h'⟩
theorem denT_nil {β : Bnd} {H : Hp} : DenT β H [] [] := by simp [DenT]
/-- a call with a contract, its arguments plain data -/
theorem calls_of_pureA {P : Program} {fn : FuncId} {args : List SV} {b : Bool} (h : PureE P fn args (fun x => x = .val (.bool b))) {W : World} (hW : InvH (H0of W) W ∧ EOK W) {vals : List Value} (hd : DenT noB (Hall W) args vals) :
    Calls P fn vals.toArray W fun e W' => e = .returned (.bool b) ∧ Below W.heap.size W W' := by
  refine (h (Hall W) W vals (inv_all hW.1) hW.2 hd).mono fun e W' ⟨H', v, x, e1, e2, e3, _, _, _, e4⟩ => ?_
  subst e3
  simp only [Den] at e2
  exact ⟨by rw [e1, e2.1], e4⟩
end Go.Proofs

