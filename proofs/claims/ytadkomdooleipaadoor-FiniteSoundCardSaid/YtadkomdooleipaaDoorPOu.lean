/- An empty slice that is not nil: what the layer of symbolic values makes of it. A text of the prover's own; it names no program. -/
import Derived.Test.YtadkomdooleipaaDoorPAm
namespace Go.Sv
open Go Go.RowKit
section
variable {P : Program} {C : Ctx} {all : Array Oper} {rest : List Oper} {st : St} {R : Post}
/-- is it nil, where that is told? -/
def nzS : SV → Option Bool
  | .val (.slice none _ _) => some true
  | .val (.slice (some _) _ _) => some false
  | .view _ _ n => if n = 0 then none else some false
  | .ro es => if es = [] then none else some false
  | _ => none
theorem nzS_den {β : Bnd} {H : Hp} {x : SV} {u : Value} {b : Bool} (hd : Den β H x u) (h : nzS x = some b) : ∃ base n cp, u = .slice base n cp ∧ base.isNone = b := by
  unfold nzS at h
  split at h
  · simp only [Den] at hd
    exact ⟨_, _, _, hd.1, by simpa using h⟩
  · simp only [Den] at hd
    exact ⟨_, _, _, hd.1, by simpa using h⟩
  · split at h
    · cases h
    · rename_i hn
      simp only [Den] at hd
      rcases hd with ⟨_, _, he, _⟩ | ⟨d, c, o, _, _, _, _, hu⟩
      · exact absurd he hn
      · exact ⟨_, _, _, hu, by simpa using h⟩
  · split at h
    · cases h
    · rename_i hn
      simp only [Den] at hd
      rcases hd with ⟨he, _⟩ | ⟨_, _, _, _, _, _, hu, _⟩
      · exact absurd he hn
      · exact ⟨_, _, _, hu, by simpa using h⟩
  · cases h
/-- a slice held against nil, where it is told whether it is -/
theorem OpsJ.nilK {d : Option Nat} {x : Operand} {op : BinOp} (hop : op = .eql ∨ op = .neq) {t ty el : TypeId} {p : String} {af : Array Edge} {s0 b0 : Nat} {z0 : List SV} {y : SV} {b : Bool}
    (hx : ev st.fr x = some y) (ht : tyOf P t = some ⟨.sl el, s0, b0, z0⟩) (hy : nzS y = some b) (hd : dok d st.n)
    (h : OpsJ P C all rest ⟨st.n, putO d (some (.val (.bool (if op = .eql then b else !b)))) st.fr, st.M⟩ R) :
    OpsJ P C all (⟨d, .binOp op t x (.const (.slice none 0 0)) t, ty, p, af, none⟩ :: rest) st R := by
  rintro a w ⟨β, H, hF, hW⟩
  have hden := fOK_den hF x _ hx
  obtain ⟨i0, d0, zz0, hy0⟩ := tyOf_spec ht
  obtain rfl := tk_sl hy0.k
  obtain ⟨base, n, cp, hu, rfl⟩ := nzS_den hden hy
  have hrun : (execOp a.eval ⟨d, .binOp op t x (.const (.slice none 0 0)) t, ty, p, af, none⟩).run P w = .ok (.value (.bool (if op = .eql then base.isNone else !base.isNone))) w := by
    simp only [execOp, hu]
    rcases hop with rfl | rfl
    · simp [eqGuard, Act.eval, binOp, run_equal_slice_nil w t el base n cp hy0.under]
    · simp [eqGuard, Act.eval, binOp, run_equal_slice_nil w t el base n cp hy0.under]
  unfold wpList
  rw [if_pos (by simp [Region.wanted])]
  left
  simp only [Oper.wp, hrun, Oper.upon]
  exact h _ _ ⟨β, H, hF.putO hd (den_val rfl), hW⟩
/-- an empty literal is no nil slice -/
theorem OpsJ.lit0 {d : Option Nat} {t ty : TypeId} {p : String} {af : Array Edge} {c : Prop} {M' : Tab} {pk : List Nat} {r : Option SV} (h0 : evBuildSlice P st.M (tyOf P t) 0 [] = .m c M' pk r) (hd : dok d st.n)
    (h : ∀ b : Addr, OpsJ P C all rest ⟨st.n, putO d (some (.val (.slice (some b) 0 0))) st.fr, M'⟩ R) :
    OpsJ P C all (⟨d, .buildSlice t 0 #[], ty, p, af, none⟩ :: rest) st R := by
  rintro a w ⟨β, H, hF, hW⟩
  obtain ⟨-, y, dd, T, rfl, h1, bd, h2, -⟩ := evBuildSlice_ok hW (fun o => fOK_den hF o) (parts := #[]) (fr := st.fr) (ρ := a.eval) h0
  have hrun : (execOp a.eval ⟨d, .buildSlice t 0 #[], ty, p, af, none⟩).run P w = .ok (.value (.slice (some ⟨w.heap.size, 0, none⟩) 0 0)) (w.alloc (.cells dd T)) := by
    have h1' : (Instr.buildSlice t 0 #[]).run P w = .ok (.slice (some ⟨w.heap.size, 0, none⟩) 0 0) (w.alloc (.cells dd T)) := by simpa using h1
    simp [execOp, h1']
  unfold wpList
  rw [if_pos (by simp [Region.wanted])]
  left
  simp only [Oper.wp, hrun, Oper.upon]
  exact h ⟨w.heap.size, 0, none⟩ _ _ ⟨_, H, (hF.mono (upd_old hW _) (fun _ _ h => h)).putO hd (den_val rfl), h2⟩
end
/-- such a slice as a list without elements -/
def e0 : SV → SV
  | .val (.slice (some _) 0 0) => .ro []
  | x => x
@[simp] theorem e0_some {b : Addr} : e0 (.val (.slice (some b) 0 0)) = .ro [] := rfl
@[simp] theorem e0_agg {l : List SV} : e0 (.agg l) = .agg l := rfl
theorem e0_den {β : Bnd} {H : Hp} {x : SV} {v : Value} (h : Den β H x v) : Den β H (e0 x) v := by
  unfold e0
  split
  · simp only [Den] at h ⊢
    exact .inl ⟨by trivial, _, _, h.1⟩
  · exact h
theorem e0_denT {β : Bnd} {H : Hp} : ∀ {l : List SV} {vs : List Value}, DenT β H l vs → DenT β H (l.map e0) vs
  | [], vs, h => h
  | x :: l, vs, h => by
    simp only [DenT, List.map_cons] at h ⊢
    obtain ⟨v, r, rfl, h1, h2⟩ := h
    exact ⟨v, r, rfl, e0_den h1, e0_denT h2⟩
theorem callE0 {P : Program} {C : Ctx} {f : FuncId} {args : List SV} {M : Tab} {W : Option (List Nat)} {K : Tab → List Nat → SV → Prop} (h : CallJ P C f (args.map e0) M W K) : CallJ P C f args M W K :=
  fun β H w vals hd hW => h β H w vals (e0_denT hd) hW
/-- one of a frame's values told as a list without elements -/
theorem Le.e0 {C : Ctx} {st : St} : Le C st ⟨st.n, st.fr.map fun x => (x.1, Sv.e0 x.2), st.M⟩ := by
  rintro a w ⟨β, H, hF, hW⟩
  refine ⟨β, H, ⟨hF.1, hF.2.1, fun t x hg => ?_⟩, hW⟩
  have hg' : ∀ (fr : List (Nat × SV)), Go.Sv.get (fr.map fun x => (x.1, Sv.e0 x.2)) t = (Go.Sv.get fr t).map Sv.e0 := by
    intro fr
    induction fr with
    | nil => rfl
    | cons y fr ih =>
      obtain ⟨s, z⟩ := y
      simp only [List.map_cons, Go.Sv.get]
      split
      · rfl
      · exact ih
  rw [hg'] at hg
  obtain ⟨z, h1, rfl⟩ := Option.map_eq_some_iff.1 hg
  obtain ⟨v, h2, h3⟩ := hF.2.2 t z h1
  exact ⟨v, h2, e0_den h3⟩
end Go.Sv

