/- The condition generator: what is to be shown so that a piece of code ends as told. A text of the prover's own; it names no program. -/
import Derived.Test.YtadkomdooleipaaGreatDoorKVp
namespace Go.Sv
open Go Go.RowKit

structure St where
  n : Nat
  fr : List (Nat × SV)
  M : Tab

abbrev Post := Exit → St → Prop

def SIM (C : Ctx) (st : St) (a : Act) (w : World) : Prop := ∃ β H, FOK β H st.n st.fr a ∧ WOK C β H st.M w
def QQ (C : Ctx) (Q : Post) : Exit → Act → World → Prop := fun e a w => ∃ st, Q e st ∧ SIM C st a w
def CodeJ (P : Program) (C : Ctx) (c : Code) (st : St) (Q : Post) : Prop := ∀ a w, SIM C st a w → c.wp P (QQ C Q) a w
def OpsJ (P : Program) (C : Ctx) (all : Array Oper) (ops : List Oper) (st : St) (Q : Post) : Prop := ∀ a w, SIM C st a w → wpList P all (QQ C Q) ops a w

mutual
/-- the entries that are named -/
def SV.ks : SV → List Nat
  | .ptr k _ _ => [k]
  | .view k _ _ => [k]
  | .agg l => SV.ksL l
  | .tup l => SV.ksL l
  | .ifc _ x => x.ks
  | .fnv _ l r => SV.ksL l ++ SV.ksL r
  | .mp k => [k]
  | _ => []
def SV.ksL : List SV → List Nat
  | [] => []
  | x :: l => x.ks ++ SV.ksL l
end

/-- a call, seen from the caller; of the blocks that were there only those of the entries of W may be written (none: whichever); the entries of pk may come to stand for other blocks -/
def CallJ (P : Program) (C : Ctx) (f : FuncId) (args : List SV) (M : Tab) (W : Option (List Nat)) (K : Tab → List Nat → SV → Prop) : Prop :=
  ∀ β H w vals, DenT β H args vals → WOK C β H M w → Calls P f vals.toArray w fun e w' =>
    ∃ β' H' M' v x pk, e = .returned v ∧ Den β' H' x v ∧ WOK C β' H' M' w' ∧ (∀ k d, k ∉ pk → β k = some d → β' k = some d) ∧ (∀ b cs, H b = some cs → H' b = some cs) ∧ K M' pk x ∧
    w.heap.size ≤ w'.heap.size ∧ ∀ ks, W = some ks → pk = [] ∧ ∀ b, b < w.heap.size → (∀ k ∈ ks, ∀ d, β k = some (some d) → b ≠ d.b) → w'.heap[b]? = w.heap[b]?

def dok (d : Option Nat) (n : Nat) : Prop := match d with
  | some t => t < n
  | none => True
def putO (d : Option Nat) (x : Option SV) (fr : List (Nat × SV)) : List (Nat × SV) :=
  match d, x with
  | some t, some x => (t, x) :: fr
  | some t, none => del fr t
  | none, _ => fr

/-- the call enters the function's own body -/
def callOK (P : Program) (f : FuncId) : Prop := ∀ (args : Array Value) (w : World), (callFunc f args).run P w = .ok (.enter f args) w

/-- forget all slots that name an entry of pk, with whatever stands behind them -/
def forget (pk : List Nat) : List (Nat × SV) → List (Nat × SV)
  | [] => []
  | (t, x) :: r => if (pk.all fun k => !x.uses k) = true then (t, x) :: forget pk r else del (forget pk r) t

theorem get_forget {pk : List Nat} : ∀ {fr : List (Nat × SV)} {t : Nat} {x : SV}, get (forget pk fr) t = some x → get fr t = some x ∧ ∀ k ∈ pk, x.uses k = false
  | [], t, x, h => by simp [forget, get] at h
  | (s, y) :: r, t, x, h => by
    simp only [forget] at h
    split at h
    · rename_i hall
      simp only [get] at h ⊢
      split at h
      · rename_i e
        simp only [Option.some.injEq] at h
        subst h
        refine ⟨by simp [e], fun k hk => ?_⟩
        simp only [List.all_eq_true] at hall
        simpa using hall k hk
      · rename_i e
        obtain ⟨h1, h2⟩ := get_forget h
        exact ⟨by rw [if_neg e]; exact h1, h2⟩
    · obtain ⟨e, h⟩ := get_del_ne h
      obtain ⟨h1, h2⟩ := get_forget h
      exact ⟨by simp only [get]; rw [if_neg (Ne.symm e)]; exact h1, h2⟩

theorem FOK.forget {β β' : Bnd} {H H' : Hp} {n : Nat} {fr : List (Nat × SV)} {a : Act} (hF : FOK β H n fr a) {pk : List Nat} (hb : ∀ k d, k ∉ pk → β k = some d → β' k = some d) (hH : ∀ b cs, H b = some cs → H' b = some cs) :
    FOK β' H' n (Sv.forget pk fr) a := by
  refine ⟨⟨hF.1.1, hF.1.2.mono hH⟩, hF.2.1, fun t x hg => ?_⟩
  obtain ⟨g1, g2⟩ := get_forget hg
  obtain ⟨v, hv, hden⟩ := hF.2.2 t x g1
  exact ⟨v, hv, Den.mono hH x v (fun j d hj hjd => hb j d (fun e => by rw [g2 j e] at hj; cases hj) hjd) hden⟩

/-- operations that make or write blocks -/
def evM (P : Program) (fx : List Nat) (M : Tab) (fr : List (Nat × SV)) (o : Op) : MRes :=
  match o with
  | .store t x y => evStore M (tyOf P t) (ev fr x) (ev fr y)
  | .alloc t => evAlloc M (tyOf P t)
  | .box t x => evBox M (tyOf P t) (ev fr x)
  | .buildSlice t len parts => evBuildSlice P M (tyOf P t) len (parts.toList.map fun p => (p.1, ev fr p.2))
  | .makeSlice t l c => evMakeSlice P M (tyOf P t) (ev fr l) (ev fr c)
  | .call ⟨.builtin .append, args, ts⟩ =>
    match args.toList with
    | [b, x] => evAppend P fx M ((ts[0]?).bind (tyOf P)) ((ts[1]?).bind (tyOf P)) (ev fr b) (ev fr x)
    | _ => .stuck
  | .call ⟨.builtin .copy, args, ts⟩ =>
    match args.toList with
    | [b, x] => evCopy P M ((ts[0]?).bind (tyOf P)) (ev fr b) (ev fr x)
    | _ => .stuck
  | .lookup t x i ok => evLookup P M (tyOf P t) (ev fr x) (ev fr i) ok
  | .mapUpdate t m i x => evMapUpd P M (tyOf P t) (ev fr m) (ev fr i) (ev fr x)
  | .insert t m i x => evMapUpd P M (tyOf P t) (ev fr m) (ev fr i) (ev fr x)
  | .mapEntry t m i => evMapEntry P M (tyOf P t) (ev fr m) (ev fr i)
  | .entryStore _ m s x => evEntryStore M (ev fr m) (ev fr s) (ev fr x)
  | .makeMap t n => evMakeMap M (tyOf P t) (n.map (ev fr))
  | .call ⟨.builtin .len, args, ts⟩ =>
    match args.toList with
    | [x] => evMapLen M ((ts[0]?).bind (tyOf P)) (ev fr x)
    | _ => .stuck
  | _ => .stuck

/-- a single operation: 'next' behind it in place, 'nextJ' behind a call -/
def vcOp (P : Program) (C : Ctx) (W : Option (List Nat)) (o : Oper) (st : St) (next nextJ : St → Prop) : Prop :=
  match evQ P st.M st.fr o.op with
  | .q c x => c ∧ dok o.dst st.n ∧ next ⟨st.n, putO o.dst (some x) st.fr, st.M⟩
  | _ =>
    match evM P C.fx st.M st.fr o.op with
    | .m c M' pk x => c ∧ dok o.dst st.n ∧ next ⟨st.n, putO o.dst x (forget pk st.fr), M'⟩
    | .stuck =>
      match o.op with
      | .call ⟨.value (.func f), args, _⟩ =>
        match evs st.fr args.toList with
        | some xs => callOK P f ∧ dok o.dst st.n ∧ CallJ P C f xs st.M W fun M' pk x => nextJ ⟨st.n, putO o.dst (some x) (forget pk st.fr), M'⟩
        | none => False
      | .call ⟨.value (.tmp t), args, _⟩ =>
        match get st.fr t, evs st.fr args.toList with
        | some (.fnv f l r), some xs => callOK P f ∧ dok o.dst st.n ∧ CallJ P C f (l ++ xs ++ r) st.M W fun M' pk x => nextJ ⟨st.n, putO o.dst (some x) (forget pk st.fr), M'⟩
        | _, _ => False
      | _ => False

/-- a guard: the slot that it asks -/
def gslot (all : Array Oper) (j : Nat) : Option Nat := (all[j]?).bind (·.dst)

/-- an operation that does not run leaves nothing in its slot -/
def skipO (n : Nat) (d : Option Nat) (fr : List (Nat × SV)) : List (Nat × SV) :=
  match d with
  | some t => if t < n then (t, .tup []) :: fr else del fr t
  | none => fr
theorem FOK.skipO {β : Bnd} {H : Hp} {n : Nat} {fr : List (Nat × SV)} {a : Act} (h : FOK β H n fr a) (d : Option Nat) : FOK β H n (Sv.skipO n d fr) (a.put d undef) := by
  cases d with
  | none => exact h
  | some t =>
    simp only [Sv.skipO]
    split
    · rename_i ht
      exact h.put ht (by simp only [Den]; exact ⟨[], rfl, by simp only [DenT]⟩)
    · exact h.skip t undef
theorem den_tup0 {β : Bnd} {H : Hp} {v : Value} (h : Den β H (.tup []) v) : v = .tuple #[] := by
  simp only [Den, DenT] at h
  obtain ⟨vs, h1, h2⟩ := h
  subst h2; exact h1

def vcOps (P : Program) (C : Ctx) (all : Array Oper) : List Oper → St → Post → Post → Prop
  | [], st, Q, _ => Q .normal st
  | o :: rest, st, Q, QJ =>
    match o.guard with
    | none => vcOp P C none o st (fun st' => vcOps P C all rest st' Q QJ) (fun st' => vcOps P C all rest st' QJ QJ)
    | some (j, b) =>
      match gslot all j with
      | some t =>
        match get st.fr t with
        | some (.val (.bool c)) =>
          (c = b → vcOp P C none o ⟨st.n, (t, .val (.bool b)) :: st.fr, st.M⟩ (fun st' => vcOps P C all rest st' Q QJ) (fun st' => vcOps P C all rest st' QJ QJ)) ∧
          (c = !b → vcOps P C all rest ⟨st.n, skipO st.n o.dst ((t, .val (.bool (!b))) :: st.fr), st.M⟩ Q QJ)
        | some (.tup []) => vcOps P C all rest ⟨st.n, skipO st.n o.dst st.fr, st.M⟩ Q QJ
        | _ => False
      | none => False

theorem FOK.putO {β : Bnd} {H : Hp} {n : Nat} {fr : List (Nat × SV)} {a : Act} (h : FOK β H n fr a) {d : Option Nat} {x : SV} {v : Value} (ht : dok d n) (hx : Den β H x v) :
    FOK β H n (putO d (some x) fr) (a.put d v) := by
  cases d with
  | none => exact h
  | some t => exact h.put ht hx
theorem FOK.putN {β : Bnd} {H : Hp} {n : Nat} {fr : List (Nat × SV)} {a : Act} (h : FOK β H n fr a) (d : Option Nat) (v : Value) :
    FOK β H n (Sv.putO d none fr) (a.put d v) := by
  cases d with
  | none => exact h
  | some t => exact h.skip t v

theorem forget_nil (fr : List (Nat × SV)) : forget [] fr = fr := by
  induction fr with
  | nil => rfl
  | cons p r ih => obtain ⟨t, x⟩ := p; simp [forget, ih]

def mpK (x : Option SV) : List Nat := match x with
  | some (.mp k) => [k]
  | _ => []
/-- the entries that an operation writes -/
def wrK (fr : List (Nat × SV)) (o : Op) : List Nat :=
  match o with
  | .store _ x _ => match ev fr x with
    | some (.ptr k _ _) => [k]
    | _ => []
  | .call ⟨.builtin .append, args, _⟩ => match args.toList with
    | [b, _] => match ev fr b with
      | some (.view k _ _) => [k]
      | _ => []
    | _ => []
  | .call ⟨.builtin .copy, args, _⟩ => match args.toList with
    | [b, _] => match ev fr b with
      | some (.view k _ _) => [k]
      | _ => []
    | _ => []
  | .mapUpdate _ m _ _ => mpK (ev fr m)
  | .insert _ m _ _ => mpK (ev fr m)
  | .mapEntry _ m _ => mpK (ev fr m)
  | .entryStore _ m _ _ => mpK (ev fr m)
  | _ => []

/-- what an operation that makes or writes blocks does -/
theorem evM_ok {P : Program} {C : Ctx} {β : Bnd} {H : Hp} {M : Tab} {w : World} (hW : WOK C β H M w) {n : Nat} {fr : List (Nat × SV)} {a : Act} (hF : FOK β H n fr a) {o : Oper} {c : Prop} {M' : Tab} {pk : List Nat} {x : Option SV}
    (h : evM P C.fx M fr o.op = .m c M' pk x) (hc : c) (hd : dok o.dst n) :
    ∃ nx v w' β', (execOp a.eval o).run P w = .ok nx w' ∧ (nx = .value v ∨ (nx = .skip ∧ v = undef)) ∧ WOK C β' H M' w' ∧ FOK β' H n (putO o.dst x (forget pk fr)) (a.put o.dst v) ∧
      (∀ j d, j ∉ pk → β j = some d → β' j = some d) ∧ w.heap.size ≤ w'.heap.size ∧ ∀ b, b < w.heap.size → (∀ k ∈ wrK fr o.op, ∀ d, β k = some (some d) → b ≠ d.b) → w'.heap[b]? = w.heap[b]? := by
  have hρ := fun o => fOK_den hF o
  obtain ⟨dst, op, type, pos, after, guard⟩ := o
  simp only at h hd ⊢
  have new : ∀ {x : SV} {z : Value} {o : Obj} {bd : Bd} {s : Sem Value} {ks : List Nat}, pk = [] → s.run P w = .ok z (w.alloc o) → WOK C (β.upd M.length (some bd)) H M' (w.alloc o) → Den (β.upd M.length (some bd)) H x z →
      ∃ nx v w' β', (do pure (Next.value (← s)) : Sem Next).run P w = .ok nx w' ∧ (nx = .value v ∨ (nx = .skip ∧ v = undef)) ∧ WOK C β' H M' w' ∧ FOK β' H n (putO dst (some x) (forget pk fr)) (a.put dst v) ∧
      (∀ j d, j ∉ pk → β j = some d → β' j = some d) ∧ w.heap.size ≤ w'.heap.size ∧ ∀ b, b < w.heap.size → (∀ k ∈ ks, ∀ d, β k = some (some d) → b ≠ d.b) → w'.heap[b]? = w.heap[b]? := fun {x z o bd s ks} hpk hs hw' hx => by
    subst hpk
    refine ⟨.value z, z, _, _, by simp [hs], .inl rfl, hw', ?_, fun j d _ hj => upd_old hW _ j d hj, by simp, fun b hb _ => heap_alloc_old hb⟩
    rw [forget_nil]
    exact (hF.mono (upd_old hW _) (fun _ _ h => h)).putO hd hx
  unfold evM at h
  split at h
  · rename_i t x' y
    obtain ⟨rfl, rfl, w', h1, h2, h3, h4⟩ := evStore_ok (P := P) hW h hc (hρ x') (hρ y)
    refine ⟨.skip, undef, w', β, by simp [execOp, h1], .inr ⟨rfl, rfl⟩, h2, ?_, fun _ _ _ h => h, by rw [h3]; exact Nat.le_refl _, fun b hb hk => h4 b (fun k i j d he => hk k (by simp [wrK, he]) d)⟩
    rw [forget_nil]
    exact hF.putN dst undef
  · rename_i t
    obtain ⟨hp, y, d, rfl, h1, bd, h2, h3⟩ := evAlloc_ok hW h
    simp only [execOp]
    exact new hp h1 h2 h3
  · rename_i t x'
    obtain ⟨hp, y, d, rfl, h1, bd, h2, h3⟩ := evBox_ok hW h hc (hρ x')
    simp only [execOp]
    exact new hp h1 h2 h3
  · rename_i t len parts
    obtain ⟨hp, y, d, T, rfl, h1, bd, h2, h3⟩ := evBuildSlice_ok hW hρ h
    simp only [execOp]
    exact new hp h1 h2 h3
  · rename_i t l cp
    obtain ⟨hp, y, d, T, z, rfl, h1, bd, h2, h3⟩ := evMakeSlice_ok hW h hc (hρ l) (hρ cp)
    simp only [execOp]
    exact new hp h1 h2 h3
  · rename_i args ts
    split at h
    · rename_i b x' hargs
      obtain ⟨k, y, z, w', β', rfl, rfl, h1, h2, h3, h4, h5, h6⟩ := evAppend_ok (ty := type) hW h hc (hρ b) (hρ x')
      have harg : args = #[b, x'] := by apply Array.ext'; simpa using hargs
      subst harg
      have hkw : ∀ j, [k] = [j] → ∀ d, β j = some (some d) → j ∈ wrK fr (.call ⟨.builtin .append, #[b, x'], ts⟩) := fun j hj d hd => by
        simp only [List.cons.injEq, and_true] at hj
        subst hj
        unfold evAppend evAppend0 at h
        split at h
        · rename_i hb
          split at h
          · split at h
            · simp only [MRes.m.injEq, List.cons.injEq, and_true] at h
              simp [wrK, hb, h.2.2.1]
            · cases h
          · cases h
        · split at h
          · split at h
            · simp only [MRes.m.injEq, List.cons.injEq, and_true] at h
              rw [← h.2.2.1, fgtO_len, hW.fresh _ (Nat.le_refl _)] at hd; cases hd
            · cases h
          · cases h
        · cases h
      refine ⟨.value z, z, w', β', ?_, .inl rfl, h2, ?_, fun j d hj => h4 j d (by simpa using hj), h5, fun c' hc' hk => h6 c' hc' (fun d hd => hk k (hkw k rfl d hd) d hd)⟩
      · simp only [execOp, resolve, Sem.run_bind, Sem.run_pure, Result.andThen_ok, invoke, builtin]
        simp [h1]
      · refine FOK.putO ?_ hd h3
        refine ⟨hF.1, hF.2.1, fun t x hg => ?_⟩
        obtain ⟨g1, g2⟩ := get_forget hg
        obtain ⟨v, hv, hden⟩ := hF.2.2 t x g1
        exact ⟨v, hv, Den.mono (fun _ _ h => h) x v (fun j d hj hjd => h4 j d (fun e => by subst e; rw [g2 j (by simp)] at hj; cases hj) hjd) hden⟩
    · cases h
  · rename_i args ts
    split at h
    · rename_i b x' hargs
      obtain ⟨k, i0, n0, y, z, w', rfl, hbk, rfl, h1, h2, h3, h4, h5⟩ := evCopy_ok (ty := type) hW h hc (hρ b) (hρ x')
      have harg : args = #[b, x'] := by apply Array.ext'; simpa using hargs
      subst harg
      refine ⟨.value z, z, w', β, ?_, .inl rfl, h2, ?_, fun _ _ _ h => h, by rw [h4]; exact Nat.le_refl _, fun c' hc' hk => h5 c' hc' (fun d hd => hk k (by simp [wrK, hbk]) d hd)⟩
      · simp only [execOp, resolve, Sem.run_bind, Sem.run_pure, Result.andThen_ok, invoke, builtin]
        simp [h1]
      · rw [forget_nil]; exact hF.putO hd h3
    · cases h
  · rename_i t x i ok
    obtain ⟨rfl, rfl, y, z, rfl, h1, h2⟩ := evLookup_ok hW h (hρ x) (hρ i)
    refine ⟨.value z, z, w, β, by simp [execOp, h1], .inl rfl, hW, ?_, fun _ _ _ h => h, Nat.le_refl _, fun _ _ _ => rfl⟩
    rw [forget_nil]; exact hF.putO hd h2
  · rename_i t m i x
    obtain ⟨rfl, rfl, w', h1, h2, h3, h4⟩ := evMapUpd_ok hW h (hρ m) (hρ i) (hρ x)
    refine ⟨.skip, undef, w', β, by simp [execOp, h1], .inr ⟨rfl, rfl⟩, h2, ?_, fun _ _ _ h => h, by rw [h3]; exact Nat.le_refl _, fun b hb hk => h4 b (fun k d he => hk k (by simp [wrK, mpK, he]) d)⟩
    rw [forget_nil]; exact hF.putN dst undef
  · rename_i t m i x
    obtain ⟨rfl, rfl, w', h1, h2, h3, h4⟩ := evMapUpd_ok hW h (hρ m) (hρ i) (hρ x)
    refine ⟨.skip, undef, w', β, by simp [execOp, h1], .inr ⟨rfl, rfl⟩, h2, ?_, fun _ _ _ h => h, by rw [h3]; exact Nat.le_refl _, fun b hb hk => h4 b (fun k d he => hk k (by simp [wrK, mpK, he]) d)⟩
    rw [forget_nil]; exact hF.putN dst undef
  · rename_i t m i
    obtain ⟨rfl, y, z, w', rfl, h1, h2, h3, h4, h5⟩ := evMapEntry_ok hW h (hρ m) (hρ i)
    refine ⟨.value z, z, w', β, by simp [execOp, h1], .inl rfl, h2, ?_, fun _ _ _ h => h, by rw [h4]; exact Nat.le_refl _, fun b hb hk => h5 b (fun k d he => hk k (by simp [wrK, mpK, he]) d)⟩
    rw [forget_nil]; exact hF.putO hd h3
  · rename_i t m s x
    obtain ⟨rfl, rfl, w', h1, h2, h3, h4⟩ := evEntryStore_ok (P := P) (t := t) hW h hc (hρ m) (hρ s) (hρ x)
    refine ⟨.skip, undef, w', β, by simp [execOp, h1], .inr ⟨rfl, rfl⟩, h2, ?_, fun _ _ _ h => h, by rw [h3]; exact Nat.le_refl _, fun b hb hk => h4 b (fun k d he => hk k (by simp [wrK, mpK, he]) d)⟩
    rw [forget_nil]; exact hF.putN dst undef
  · rename_i t o
    obtain ⟨hp, bd, x, rfl, h1, h2, h3⟩ := evMakeMap_ok (P := P) hW hρ h
    simp only [execOp]
    exact new hp h1 h2 h3
  · rename_i args ts
    split at h
    · rename_i x hargs
      have harg : args = #[x] := by apply Array.ext'; simpa using hargs
      subst harg
      cases ht0 : ts[0]? with
      | none => rw [ht0] at h; simp [evMapLen] at h
      | some t0 =>
        rw [ht0] at h
        obtain ⟨rfl, rfl, y, z, rfl, h1, h2⟩ := evMapLen_ok (ty := type) hW ht0 h (hρ x)
        refine ⟨.value z, z, w, β, ?_, .inl rfl, hW, ?_, fun _ _ _ h => h, Nat.le_refl _, fun _ _ _ => rfl⟩
        · simp only [execOp, resolve, Sem.run_bind, Sem.run_pure, Result.andThen_ok, invoke, builtin]
          simp [h1]
        · rw [forget_nil]; exact hF.putO hd h2
    · cases h
  · cases h

theorem denT_append {β : Bnd} {H : Hp} : ∀ {l l' : List SV} {vs vs' : List Value}, DenT β H l vs → DenT β H l' vs' → DenT β H (l ++ l') (vs ++ vs')
  | [], l', vs, vs', h, h' => by simp only [DenT] at h; simpa [h] using h'
  | x :: l, l', vs, vs', h, h' => by
    simp only [DenT] at h
    obtain ⟨v, r, rfl, h1, h2⟩ := h
    simp only [List.cons_append, DenT]
    exact ⟨v, r ++ vs', rfl, h1, denT_append h2 h'⟩

theorem vcOp_ok {P : Program} {C : Ctx} {all : Array Oper} {rest : List Oper} {o : Oper} {st : St} {QJ : Post} {next nextJ : St → Prop} (hn : ∀ st', next st' → OpsJ P C all rest st' QJ)
    (hnJ : ∀ st', nextJ st' → OpsJ P C all rest st' QJ) (h : vcOp P C none o st next nextJ) {a : Act} {w : World} (hs : SIM C st a w) : o.wp P a w (wpList P all (QQ C QJ) rest) (QQ C QJ) := by
  obtain ⟨β, H, hF, hW⟩ := hs
  unfold vcOp at h
  split at h
  · rename_i c x hq
    obtain ⟨hc, hd, hnx⟩ := h
    obtain ⟨v, h1, h2⟩ := evQ_ok hW hF hq hc
    simp only [Oper.wp, h1, Oper.upon]
    exact hn _ hnx _ _ ⟨β, H, hF.putO hd h2, hW⟩
  · split at h
    · rename_i c M' pk x hm
      obtain ⟨hc, hd, hnx⟩ := h
      obtain ⟨nx, v, w', β', h1, h2, h3, h4, -, -, -⟩ := evM_ok hW hF hm hc hd
      simp only [Oper.wp, h1]
      rcases h2 with rfl | ⟨rfl, rfl⟩
      · simp only [Oper.upon]; exact hn _ hnx _ _ ⟨β', H, h4, h3⟩
      · simp only [Oper.upon]; exact hn _ hnx _ _ ⟨β', H, h4, h3⟩
    · split at h
      · rename_i f args ts hop
        split at h
        · rename_i xs hxs
          obtain ⟨hf, hd, hcall⟩ := h
          have hrun : (execOp a.eval o).run P w = .ok (.enter f (args.map a.eval)) w := by
            obtain ⟨dst, op, type, pos, after, guard⟩ := o
            simp only at hop
            subst hop
            simp only [execOp, resolve, Act.eval, Deferred.ofValue, Sem.run_bind, Sem.run_pure, Result.andThen_ok, invoke]
            simpa using hf (args.map a.eval) w
          simp only [Oper.wp, hrun, Oper.upon]
          have hvals := evs_den hF _ _ hxs
          have := hcall β H w _ hvals hW
          rw [show (args.toList.map a.eval).toArray = args.map a.eval from by apply Array.ext'; simp] at this
          refine Calls.mono this ?_
          rintro e w' ⟨β', H', M', v, x, pk, rfl, g1, g2, g3, g4, g5, -⟩
          exact hnJ _ g5 _ _ ⟨β', H', (hF.forget g3 g4).putO hd g1, g2⟩
        · exact h.elim
      · rename_i t args ts hop
        split at h
        · rename_i f l r xs hfn hxs
          obtain ⟨hf, hd, hcall⟩ := h
          obtain ⟨vf, hv, hden⟩ := hF.2.2 t _ hfn
          simp only [Den] at hden
          obtain ⟨vl, vr, rfl, hdl, hdr⟩ := hden
          have hgv : a.eval (.tmp t) = .func (.func f) vl.toArray vr.toArray := by
            simp only [Act.eval, Array.getD_eq_getD_getElem?, hv]; rfl
          have hrun : (execOp a.eval o).run P w = .ok (.enter f (vl.toArray ++ args.map a.eval ++ vr.toArray)) w := by
            obtain ⟨dst, op, type, pos, after, guard⟩ := o
            simp only at hop
            subst hop
            simp only [execOp, resolve, hgv, Deferred.ofValue, Sem.run_bind, Sem.run_pure, Result.andThen_ok, invoke]
            simpa using hf (vl.toArray ++ args.map a.eval ++ vr.toArray) w
          simp only [Oper.wp, hrun, Oper.upon]
          have hvals := denT_append (denT_append hdl (evs_den hF _ _ hxs)) hdr
          have := hcall β H w _ hvals hW
          rw [show (vl ++ args.toList.map a.eval ++ vr).toArray = vl.toArray ++ args.map a.eval ++ vr.toArray from by apply Array.ext'; simp] at this
          refine Calls.mono this ?_
          rintro e w' ⟨β', H', M', v, x, pk, rfl, g1, g2, g3, g4, g5, -⟩
          exact hnJ _ g5 _ _ ⟨β', H', (hF.forget g3 g4).putO hd g1, g2⟩
        · exact h.elim
      · exact h.elim

theorem vcOps_ok {P : Program} {C : Ctx} {all : Array Oper} : ∀ (ops : List Oper) (st : St) {Q QJ R : Post}, (∀ e st, Q e st → R e st) → (∀ e st, QJ e st → R e st) → vcOps P C all ops st Q QJ → OpsJ P C all ops st R
  | [], st, Q, QJ, R, hQ, hJ, h => fun a w hs => wpList_nil ⟨st, hQ _ _ h, hs⟩
  | o :: rest, st, Q, QJ, R, hQ, hJ, h => fun a w hs => by
    simp only [vcOps] at h
    split at h
    · rename_i hg
      unfold wpList
      rw [if_pos (by simp [Region.wanted, hg])]
      exact .inl (vcOp_ok (fun st' h' => vcOps_ok rest st' hQ hJ h') (fun st' h' => vcOps_ok rest st' hJ hJ h') h hs)
    · rename_i j b hg
      split at h
      · rename_i t ht
        split at h
        · rename_i c hc
          obtain ⟨β, H, hF, hW⟩ := hs
          obtain ⟨v, hv, hden⟩ := hF.2.2 t _ hc
          simp only [Den] at hden
          obtain ⟨rfl, -⟩ := hden
          have hy : yielded all a.tmps j = some c := by
            unfold yielded
            simp only [gslot] at ht
            rw [ht]
            simp [hv]
          have hsub : ∀ b', c = b' → FOK β H st.n ((t, .val (.bool b')) :: st.fr) a := fun b' hb => by
            subst hb
            refine hF.sub fun t' x' hg' => ?_
            simp only [get] at hg'
            split at hg'
            · rename_i e; subst e; simp only [Option.some.injEq] at hg'; subst hg'; exact hc
            · exact hg'
          unfold wpList
          by_cases hcb : c = b
          · rw [if_pos (by simp [Region.wanted, hg, hy, hcb])]
            exact .inl (vcOp_ok (fun st' h' => vcOps_ok rest st' hQ hJ h') (fun st' h' => vcOps_ok rest st' hJ hJ h') (h.1 hcb) ⟨β, H, hsub b hcb, hW⟩)
          · rw [if_neg (by simp [Region.wanted, hg, hy, hcb])]
            have hcb' : c = !b := by cases c <;> cases b <;> simp_all
            exact vcOps_ok rest _ hQ hJ (h.2 hcb') _ _ ⟨β, H, (hsub _ hcb').skipO o.dst, hW⟩
        · rename_i hc
          obtain ⟨β, H, hF, hW⟩ := hs
          obtain ⟨v, hv, hden⟩ := hF.2.2 t _ hc
          obtain rfl := den_tup0 hden
          have hy : yielded all a.tmps j = none := by
            unfold yielded
            simp only [gslot] at ht
            rw [ht]
            simp [hv]
          unfold wpList
          rw [if_neg (by simp [Region.wanted, hg, hy])]
          exact vcOps_ok rest _ hQ hJ h _ _ ⟨β, H, hF.skipO o.dst, hW⟩
        · exact h.elim
      · exact h.elim

def blk (id : Nat) (Q : Post) : Post := fun e st => match e with
  | .exit id' => if id' = id then Q .normal st else Q (.exit id') st
  | e => Q e st
def thn (Q1 : St → Prop) (Q : Post) : Post := fun e st => match e with
  | .normal => Q1 st
  | e => Q e st

def vc (P : Program) (C : Ctx) : Code → St → Post → Post → Prop
  | .skip, st, Q, _ => Q .normal st
  | .seq x y, st, Q, QJ => vc P C x st (thn (fun st' => vc P C y st' Q QJ) Q) (thn (fun st' => vc P C y st' QJ QJ) QJ)
  | .cond c x y, st, Q, QJ =>
    match ev st.fr c with
    | some (.val (.bool b)) => (b = true → vc P C x st Q QJ) ∧ (b = false → vc P C y st Q QJ)
    | _ => False
  | .block id c, st, Q, QJ => vc P C c st (blk id Q) (blk id QJ)
  | .exit id, st, Q, _ => Q (.exit id) st
  | .ret, st, Q, _ => Q .ret st
  | .region _ ops false, st, Q, QJ => vcOps P C ops ops.toList st Q QJ
  | c, st, _, QJ => CodeJ P C c st QJ

theorem QQ_mono {C : Ctx} {Q Q' : Post} (h : ∀ e st, Q e st → Q' e st) : ∀ e a w, QQ C Q e a w → QQ C Q' e a w := fun e _ _ ⟨st, h1, h2⟩ => ⟨st, h e st h1, h2⟩
theorem CodeJ.mono {P : Program} {C : Ctx} {c : Code} {st : St} {Q Q' : Post} (h : CodeJ P C c st Q) (hq : ∀ e st, Q e st → Q' e st) : CodeJ P C c st Q' :=
  fun a w hs => wp_mono (h a w hs) (QQ_mono hq)

theorem blk_mono {id : Nat} {Q R : Post} (h : ∀ e st, Q e st → R e st) : ∀ e st, blk id Q e st → blk id R e st := fun e st h' => by
  cases e <;> simp only [blk] at h' ⊢ <;> first | exact h _ _ h' | (split at h' <;> rename_i e <;> first | (rw [if_pos e]; exact h _ _ h') | (rw [if_neg e]; exact h _ _ h'))

theorem vc_ok {P : Program} {C : Ctx} : ∀ (c : Code) (st : St) {Q QJ R : Post}, (∀ e st, Q e st → R e st) → (∀ e st, QJ e st → R e st) → vc P C c st Q QJ → CodeJ P C c st R
  | .skip, st, Q, QJ, R, hQ, hJ, h => fun a w hs => wp_skip ⟨st, hQ _ _ h, hs⟩
  | .seq x y, st, Q, QJ, R, hQ, hJ, h => by
    have h1 := vc_ok x st (R := thn (fun st' => CodeJ P C y st' R) R) (fun e st' h' => by
      cases e <;> simp only [thn] at h' ⊢ <;> first | exact hQ _ _ h' | exact vc_ok y st' hQ hJ h') (fun e st' h' => by
      cases e <;> simp only [thn] at h' ⊢ <;> first | exact hJ _ _ h' | exact vc_ok y st' hJ hJ h') h
    intro a w hs
    refine wp_seq (wp_mono (h1 a w hs) ?_)
    rintro e a' w' ⟨st', h2, h3⟩
    cases e <;> simp only [thn, Exit.then] at h2 ⊢ <;> first | exact h2 a' w' h3 | exact ⟨st', h2, h3⟩
  | .cond c x y, st, Q, QJ, R, hQ, hJ, h => by
    simp only [vc] at h
    split at h
    · rename_i b hb
      rintro a w ⟨β, H, hF, hW⟩
      have hden := ev_den hF hb
      simp only [Den] at hden
      refine wp_cond_split hden.1 (fun ht => vc_ok x st hQ hJ (h.1 ht) a w ⟨β, H, hF, hW⟩) (fun hf => vc_ok y st hQ hJ (h.2 hf) a w ⟨β, H, hF, hW⟩)
    · exact h.elim
  | .block id c, st, Q, QJ, R, hQ, hJ, h => by
    have h1 := vc_ok c st (R := blk id R) (blk_mono hQ) (blk_mono hJ) h
    intro a w hs
    refine wp_block (wp_mono (h1 a w hs) ?_)
    rintro e a' w' ⟨st', h2, h3⟩
    cases e <;> simp only [blk, Exit.inBlock] at h2 ⊢ <;> first | exact ⟨st', h2, h3⟩ | (split at h2 <;> rename_i e <;> first | (rw [if_pos e]; exact ⟨st', h2, h3⟩) | (rw [if_neg e]; exact ⟨st', h2, h3⟩))
  | .exit id, st, Q, QJ, R, hQ, hJ, h => fun a w hs => wp_exit ⟨st, hQ _ _ h, hs⟩
  | .ret, st, Q, QJ, R, hQ, hJ, h => fun a w hs => wp_ret ⟨st, hQ _ _ h, hs⟩
  | .region id ops false, st, Q, QJ, R, hQ, hJ, h => fun a w hs => wp_region_list (vcOps_ok ops.toList st hQ hJ h a w hs)
  | .region id ops true, st, Q, QJ, R, hQ, hJ, h => h.mono hJ
  | .loop c, st, Q, QJ, R, hQ, hJ, h => h.mono hJ
  | .rangeFunc .., st, Q, QJ, R, hQ, hJ, h => h.mono hJ
  | .scope c, st, Q, QJ, R, hQ, hJ, h => h.mono hJ
  | .label l, st, Q, QJ, R, hQ, hJ, h => h.mono hJ
  | .goto l, st, Q, QJ, R, hQ, hJ, h => h.mono hJ
  | .refuse s, st, Q, QJ, R, hQ, hJ, h => h.mono hJ

end Go.Sv

