/- Regions whose operations may come up in more than one order, where new variables are made beside calls that only make new memory: the new variables count as made last, in the order of the plan. A text of the prover's own; it names no program. -/
import Derived.Test.YtadkomdooleipaaDoorKVy
namespace Go.Sv
open Go Go.RowKit

/-- a new variable that is to come: the operation, its slot, its entry, its type -/
structure Late where
  i : Nat
  t : Nat
  k : Nat
  ti : TI

inductive Pz
  | q (i : Nat) (ks : List Nat) (r : Pz)
  | p (i : Nat) (r : Pz)
  | d (i : Nat) (r : Pz)
  | b (r : Pl)
def Pz.qs : List Nat → Pz → Pz
  | [], r => r
  | i :: is, r => .q i [] (Pz.qs is r)
def Pz.Y : Pz → Nat → List Nat
  | .q _ _ r, x => r.Y x
  | .p _ r, x => r.Y x
  | .d _ r, x => r.Y x
  | .b r, x => r.Y x
def Pz.len : Pz → Nat
  | .q _ _ r => r.len + 1
  | .p _ r => r.len + 1
  | .d _ r => r.len + 1
  | .b r => r.len
/-- a call that only makes new memory, whatever order is picked -/
def PureJ (P : Program) (f : FuncId) (xs : List SV) (M : Tab) (K : SV → Prop) : Prop := SV.ksL xs = [] ∧ ∃ args' Φ, SubL M xs args' ∧ PureC P f args' Φ ∧ ∀ x, Φ x → K x
def pureStep (P : Program) (o : Oper) (st : St) (K : St → Prop) : Prop := match o.op with
  | .call ⟨.value (.func f), args, _⟩ => match evs st.fr args.toList with
    | some xs => callOK P f ∧ dok o.dst st.n ∧ PureJ P f xs st.M fun x => K ⟨st.n, putO o.dst (some x) st.fr, st.M⟩
    | none => False
  | _ => False
def zent (d : Late) : Option Ent := some ⟨d.ti.size, [d.ti.zsv], false⟩
def slotsD : List Late → List (Nat × SV) → List (Nat × SV)
  | [], fr => fr
  | d :: D, fr => (d.t, .ptr d.k 0 0) :: slotsD D fr
def bindD : List Late → Tab → Tab
  | [], M => M
  | d :: D, M => (bindD D M).set d.k (zent d)
def vcZ (P : Program) (C : Ctx) (ops : Array Oper) : List Late → Pz → St → Post → Post → Prop
  | D, .d i r, st, Q, QJ => (match ops[i]? with
    | some ⟨some t, .alloc T, _, _, _, none⟩ => match tyOf P T with
      | some ti => t < st.n ∧ vcZ P C ops (D ++ [⟨i, t, st.M.length, ti⟩]) r ⟨st.n, del st.fr t, st.M ++ [none]⟩ Q QJ
      | none => False
    | _ => False)
  | D, .q i ks r, st, Q, QJ => match ops[i]? with
    | none => False
    | some o => gd ops o st (fun st' => okI ks st' o.op ∧ vcOp P C none o st' (fun st'' => vcZ P C ops D r st'' Q QJ) (fun _ => False)) (fun st' => vcZ P C ops D r st' Q QJ)
  | D, .p i r, st, Q, QJ => match ops[i]? with
    | none => False
    | some o => gd ops o st (fun st' => pureStep P o st' (fun st'' => vcZ P C ops D r st'' QJ QJ)) (fun st' => vcZ P C ops D r st' Q QJ)
  | D, .b r, st, Q, QJ => vcPl P C ops r ⟨st.n, slotsD D st.fr, bindD D st.M⟩ Q QJ

section
variable {P : Program} {C : Ctx} {ops : Array Oper} {L : Array Bool} {Q QJ : Post} {st : St} {β : Bnd} {H : Hp} {a : Act} {w : World} {M : Tab}

def plus1 (x : Nat → Bool) (j : Nat) : Nat → Bool := fun i => x i || i == j
/-! the table, with those that have come -/
def bindB (x : Nat → Bool) : List Late → Tab → Tab
  | [], M => M
  | d :: D, M => if x d.i = true then (bindB x D M).set d.k (zent d) else bindB x D M
theorem bindB_other {x : Nat → Bool} {D : List Late} {M : Tab} {k : Nat} (h : ∀ d ∈ D, x d.i = true → d.k ≠ k) : (bindB x D M)[k]? = M[k]? := by
  induction D with
  | nil => rfl
  | cons d D ih =>
    have ih := ih fun e he => h e (by simp [he])
    simp only [bindB]
    split
    · rename_i hx; rw [List.getElem?_set_ne (h d (by simp) hx)]; exact ih
    · exact ih
theorem bindB_plus {x : Nat → Bool} {D : List Late} {M : Tab} {d : Late} (hd : d ∈ D) (hn : (D.map (·.i)).Nodup) (hk : (D.map (·.k)).Nodup) : bindB (plus1 x d.i) D M = (bindB x D M).set d.k (zent d) := by
  induction D with
  | nil => cases hd
  | cons c D ih =>
    simp only [List.map_cons, List.nodup_cons] at hn hk
    simp only [bindB]
    rcases List.mem_cons.1 hd with rfl | hd
    · have hnot : ∀ e ∈ D, e.i ≠ d.i := fun e he h => hn.1 (List.mem_map.2 ⟨e, he, h⟩)
      have hsame : bindB (plus1 x d.i) D M = bindB x D M := by
        clear ih hn hk
        induction D with
        | nil => rfl
        | cons e D ih' =>
          simp only [bindB]
          rw [ih' (by simp) fun e' he' => hnot e' (by simp [he'])]
          have : plus1 x d.i e.i = x e.i := by simp [plus1, hnot e (by simp)]
          rw [this]
      rw [hsame, if_pos (by simp [plus1])]
      split
      · simp
      · rfl
    · have hne : c.i ≠ d.i := fun h => hn.1 (List.mem_map.2 ⟨d, hd, h.symm⟩)
      have hnk : c.k ≠ d.k := fun h => hk.1 (List.mem_map.2 ⟨d, hd, h.symm⟩)
      have : plus1 x d.i c.i = x c.i := by simp [plus1, hne]
      rw [this, ih hd hn.2 hk.2]
      split
      · rw [List.set_comm _ _ hnk.symm]
      · rfl

/-- a new block for an entry that is kept free -/
theorem WOK.allocAt (h : WOK C β H M w) {k : Nat} (hk0 : M[k]? = some none) (hb0 : β k = none) {cs : Array Value} {T : TypeId} {s : Nat} {es : List SV} {vs : List Value} (hd : DenE β H s es vs) (hl : vs.length ≤ cs.size)
    (hc : ∀ i, i < vs.length → cs[i]? = vs[i]?) :
    WOK C (β.upd k (some ⟨w.heap.size, cs.size, s⟩)) H (M.set k (some ⟨s, es, false⟩)) (w.alloc (.cells cs T)) := by
  have up : ∀ j d, β j = some d → (β.upd k (some ⟨w.heap.size, cs.size, s⟩)) j = some d := fun j d hj => by
    simp only [Bnd.upd]; rw [if_neg]; exact hj
    intro e; subst e; rw [hb0] at hj; cases hj
  have hkl : k < M.length := by
    rcases Nat.lt_or_ge k M.length with h' | h'
    · exact h'
    · rw [List.getElem?_eq_none h'] at hk0; cases hk0
  have cases' : ∀ {j : Nat} {e : Ent}, (M.set k (some ⟨s, es, false⟩))[j]? = some (some e) → (j ≠ k ∧ M[j]? = some (some e)) ∨ (j = k ∧ e = ⟨s, es, false⟩) := fun {j e} hj => by
    by_cases ej : j = k
    · subst ej
      rw [List.getElem?_set_self hkl] at hj
      simp only [Option.some.injEq] at hj
      exact .inr ⟨rfl, hj.symm⟩
    · rw [List.getElem?_set_ne (Ne.symm ej)] at hj
      exact .inl ⟨ej, hj⟩
  exact {
    os := h.os, tape := h.tape, output := h.output
    size := by have := h.size; simp; omega
    frame := fun b hb hx => by rw [heap_alloc_old (by have := h.size; omega)]; exact h.frame b hb hx
    ext := h.ext, new := h.new
    inv := fun b cs' hb => by obtain ⟨T', z, h'⟩ := h.inv b cs' hb; exact ⟨T', z, by rw [heap_alloc_old (heap_lt h')]; exact h'⟩
    ents := fun j e hj => by
      rcases cases' hj with ⟨hne, hj'⟩ | ⟨rfl, rfl⟩
      · exact (h.ents j e hj').up up (fun _ _ h => h) (fun d hd' => heap_alloc_old (h.lt hj' hd'))
      · exact .inr (.inl ⟨_, cs, T, vs, by simp [Bnd.upd]; rfl, rfl, heap_alloc_new, rfl, DenE.mono (fun _ _ h => h) _ _ _ (fun k d _ => up k d) hd, hl, hc, fun hf => by cases hf⟩)
    own := fun j e d hj hd' => by
      rcases cases' hj with ⟨hne, hj'⟩ | ⟨rfl, rfl⟩
      · simp only [Bnd.upd] at hd'; rw [if_neg hne] at hd'; exact h.own j e d hj' hd'
      · simp only [Bnd.upd, if_true, Option.some.injEq] at hd'
        subst hd'
        refine ⟨fun _ => ?_, .inl h.size⟩
        cases hH : H w.heap.size with
        | none => rfl
        | some cs' => have := h.hlt hH; omega
    inj := fun j j' e e' d d' hj hj' hd1 hd2 hb => by
      rcases cases' hj with ⟨hn1, hk1⟩ | ⟨rfl, rfl⟩ <;> rcases cases' hj' with ⟨hn2, hk2⟩ | ⟨rfl, rfl⟩
      · simp only [Bnd.upd] at hd1 hd2; rw [if_neg hn1] at hd1; rw [if_neg hn2] at hd2; exact h.inj j j' e e' d d' hk1 hk2 hd1 hd2 hb
      · simp only [Bnd.upd] at hd1 hd2; rw [if_neg hn1] at hd1; simp only [if_true, Option.some.injEq] at hd2; subst hd2
        have := h.lt hk1 hd1; simp only at hb; omega
      · simp only [Bnd.upd] at hd1 hd2; rw [if_neg hn2] at hd2; simp only [if_true, Option.some.injEq] at hd1; subst hd1
        have := h.lt hk2 hd2; simp only at hb; omega
      · rfl
    fresh := fun j hj => by
      simp only [List.length_set] at hj
      simp only [Bnd.upd]; rw [if_neg (by omega)]; exact h.fresh j hj
    keep := fun j d hj hd => up j d (h.keep j d hj hd)
    glob := h.glob }
theorem WOK.sub {M' : Tab} (h : WOK C β H M w) (hl : M'.length = M.length) (hs : ∀ (k : Nat) (e : Ent), M'[k]? = some (some e) → M[k]? = some (some e)) : WOK C β H M' w :=
  ⟨h.os, h.tape, h.output, h.size, h.frame, h.ext, h.new, h.inv, fun k e hk => h.ents k e (hs k e hk), fun k e d hk => h.own k e d (hs k e hk), fun k k' e e' d d' hk hk' => h.inj k k' e e' d d' (hs k e hk) (hs k' e' hk'), fun k hk => h.fresh k (by omega), h.keep, h.glob⟩

/-- where a walk stands: what is told of the state, with those new variables that have come -/
structure ZS (C : Ctx) (n : Nat) (fr : List (Nat × SV)) (M : Tab) (D : List Late) (x : Nat → Bool) (β : Bnd) (H : Hp) (a : Act) (w : World) : Prop where
  F : FOK β H n fr a
  W : WOK C β H (bindB x D M) w
  S : ∀ d ∈ D, x d.i = true → ∃ v, a.tmps[d.t]? = some v ∧ Den β H (.ptr d.k 0 0) v
  N : ∀ d ∈ D, x d.i = false → β d.k = none
/-- what is asked of the list of those to come -/
structure DOK (P : Program) (ops : Array Oper) (n : Nat) (fr : List (Nat × SV)) (M : Tab) (D : List Late) : Prop where
  o : ∀ d ∈ D, ∃ T ty p af, ops[d.i]? = some ⟨some d.t, .alloc T, ty, p, af, none⟩ ∧ tyOf P T = some d.ti
  ni : (D.map (·.i)).Nodup
  nk : (D.map (·.k)).Nodup
  M : ∀ d ∈ D, M[d.k]? = some none
  t : ∀ d ∈ D, d.t < n
  nt : (D.map (·.t)).Nodup
  fr : ∀ d ∈ D, get fr d.t = none
theorem inj_nodup {α : Type} (f : α → Nat) : ∀ {D : List α}, (D.map f).Nodup → ∀ {a b : α}, a ∈ D → b ∈ D → f a = f b → a = b
  | [], _, _, _, h, _, _ => by cases h
  | c :: D, hn, a, b, ha, hb, e => by
    simp only [List.map_cons, List.nodup_cons] at hn
    obtain ⟨h1, h2⟩ := hn
    rcases List.mem_cons.1 ha with ea | ha' <;> rcases List.mem_cons.1 hb with eb | hb'
    · rw [ea, eb]
    · subst ea; exact absurd (List.mem_map.2 ⟨b, hb', e.symm⟩) h1
    · subst eb; exact absurd (List.mem_map.2 ⟨a, ha', e⟩) h1
    · exact inj_nodup f h2 ha' hb' e
/-- one of those to come comes -/
theorem ZS.come {n : Nat} {fr : List (Nat × SV)} {D : List Late} {x : Nat → Bool} (hD : DOK P ops n fr M D) (h : ZS C n fr M D x β H a w) {d : Late} (hd : d ∈ D) (hx : x d.i = false) :
    ∃ o v w' bd, ops[d.i]? = some o ∧ o.guard = none ∧ (execOp a.eval o).run P w = .ok (.value v) w' ∧ bd.b = w.heap.size ∧ w.heap.size ≤ w'.heap.size ∧ (∀ b, b < w.heap.size → w'.heap[b]? = w.heap[b]?) ∧
      ZS C n fr M D (plus1 x d.i) (β.upd d.k (some bd)) H (a.put o.dst v) w' := by
  obtain ⟨T, ty, p, af, ho, hti⟩ := hD.o d hd
  obtain ⟨i1, d1, z1, ht⟩ := tyOf_spec hti
  obtain ⟨v, hv1, hv2, hv3⟩ := zsv_den ht β H
  have hnone : (bindB x D M)[d.k]? = some none := by
    rw [bindB_other fun e he hxe hk => ?_]
    · exact hD.M d hd
    · have : e = d := inj_nodup _ hD.nk he hd hk
      rw [this, hx] at hxe; cases hxe
  have hW := h.W.allocAt (T := T) (cs := z1.cells) (s := d.ti.size) (es := [d.ti.zsv]) (vs := v.cells.toList) hnone (h.N d hd hx) (by simp only [DenE]; exact ⟨v, [], by simp, by rw [hv2, hv3], hv1, rfl⟩) (by simp [hv2]) (fun q hq => by simp [hv2])
  have up : ∀ j e, β j = some e → (β.upd d.k (some ⟨w.heap.size, z1.cells.size, d.ti.size⟩)) j = some e := fun j e hj => by
    simp only [Bnd.upd]; rw [if_neg]; exact hj
    intro e'; subst e'; rw [h.N d hd hx] at hj; cases hj
  have htn := hD.t d hd
  refine ⟨_, .pointer (some ⟨w.heap.size, 0, none⟩), w.alloc (.cells z1.cells T), ⟨w.heap.size, z1.cells.size, d.ti.size⟩, ho, rfl, ?_, rfl, by simp, fun b hb => heap_alloc_old hb, ?_, ?_, fun e he hxe => ?_, fun e he hxe => ?_⟩
  · simp [execOp, Instr.alloc, ht.runZero, newVar, newRow]
  · have := (h.F.mono up (fun _ _ h => h)).skip d.t (.pointer (some ⟨w.heap.size, 0, none⟩))
    refine this.sub fun t' y hg => ?_
    have hne : t' ≠ d.t := fun e => by rw [e, hD.fr d hd] at hg; cases hg
    have key : ∀ l : List (Nat × SV), get (del l d.t) t' = get l t' := fun l => by
      induction l with
      | nil => rfl
      | cons q l ih =>
        obtain ⟨s, z⟩ := q
        simp only [del, List.filter_cons]
        by_cases e : s = d.t
        · subst e
          simp only [beq_self_eq_true, Bool.not_true, Bool.false_eq_true, if_false, get]
          rw [if_neg (Ne.symm hne)]; exact ih
        · simp only [beq_iff_eq, e, Bool.not_eq_true', beq_eq_false_iff_ne, ne_eq, not_false_eq_true, if_true, get]
          split
          · rfl
          · exact ih
    rw [key]; exact hg
  · rw [bindB_plus hd hD.ni hD.nk]; exact hW
  · by_cases e1 : e.i = d.i
    · have : e = d := inj_nodup _ hD.ni he hd e1
      subst this
      refine ⟨_, by simp [Act.put, h.F.2.1, htn]; rfl, ?_⟩
      simp only [Den]
      exact ⟨_, by simp [Bnd.upd]; rfl, by simp⟩
    · have hx' : x e.i = true := by simpa [plus1, e1] using hxe
      obtain ⟨v', hv', hden⟩ := h.S e he hx'
      have hne : d.t ≠ e.t := fun h' => e1 (by rw [inj_nodup _ hD.nt he hd h'.symm])
      refine ⟨v', by simp only [Act.put]; rw [Array.getElem?_setIfInBounds_ne hne]; exact hv', hden.up up (fun _ _ h => h)⟩
  · have e1 : e.i ≠ d.i := fun h' => by simp [plus1, h'] at hxe
    have hx' : x e.i = false := by simpa [plus1, e1] using hxe
    have hne : e.k ≠ d.k := fun h' => e1 (by rw [inj_nodup _ hD.nk he hd h'])
    simp only [Bnd.upd]; rw [if_neg hne]; exact h.N e he hx'

def cnt (x : Nat → Bool) (D : List Late) : Nat := (D.filter fun d => !x d.i).length
theorem DOK.frame {n : Nat} {fr fr' : List (Nat × SV)} {D : List Late} (h : DOK P ops n fr M D) (hf : ∀ d ∈ D, get fr' d.t = none) : DOK P ops n fr' M D := ⟨h.o, h.ni, h.nk, h.M, h.t, h.nt, hf⟩
theorem ZS.put {n : Nat} {fr fr' : List (Nat × SV)} {D : List Late} {x : Nat → Bool} {d0 : Option Tmp} {v : Value} (h : ZS C n fr M D x β H a w) (hF : FOK β H n fr' (a.put d0 v)) (hd : ∀ d ∈ D, ∀ s, d0 = some s → s ≠ d.t) : ZS C n fr' M D x β H (a.put d0 v) w :=
  ⟨hF, h.W, fun d hd' hx => by
    obtain ⟨v', hv', hden⟩ := h.S d hd' hx
    refine ⟨v', ?_, hden⟩
    cases d0 with
    | none => exact hv'
    | some s => simp only [Act.put]; rw [Array.getElem?_setIfInBounds_ne (hd d hd' s rfl)]; exact hv', h.N⟩
end

/-! how simp runs it -/
def nxZ (P : Program) (C : Ctx) (ops : Array Oper) (D : List Late) (r : Pz) (Q QJ : Post) (st : St) : Prop := vcZ P C ops D r st Q QJ
def njZ (P : Program) (C : Ctx) (ops : Array Oper) (D : List Late) (r : Pz) (QJ : Post) (st : St) : Prop := vcZ P C ops D r st QJ QJ
def KU (d : Option Tmp) (st : St) (next : St → Prop) (z : SV) : Prop := next ⟨st.n, putO d (some z) st.fr, st.M⟩
def onPure (P : Program) (f : FuncId) (xs : Option (List SV)) (d : Option Tmp) (st : St) (next : St → Prop) : Prop := match xs with
  | some xs => callOK P f ∧ dok d st.n ∧ PureJ P f xs st.M (KU d st next)
  | none => False
section
variable {P : Program} {C : Ctx} {st : St} {Q QJ : Post} {l : List Oper} {D : List Late} {d : Option Tmp} {op : Op} {t : TypeId} {p : String} {af : Array Edge} {g : Option (Nat × Bool)} {o : Oper} {r : Pz} {i : Nat} {ks : List Nat} {next : St → Prop}
@[simp] theorem nxZ_app : nxZ P C l.toArray D r Q QJ st = vcZ P C l.toArray D r st Q QJ := rfl
@[simp] theorem njZ_app : njZ P C l.toArray D r QJ st = vcZ P C l.toArray D r st QJ QJ := rfl
@[simp] theorem KU_app {z : SV} : KU d st next z = next ⟨st.n, putO d (some z) st.fr, st.M⟩ := rfl
@[simp] theorem onPure_some {f : FuncId} {xs : List SV} : onPure P f (some xs) d st next = (callOK P f ∧ dok d st.n ∧ PureJ P f xs st.M (KU d st next)) := rfl
def zQ (P : Program) (C : Ctx) (l : List Oper) (D : List Late) (ks : List Nat) (o : Oper) (r : Pz) (Q QJ : Post) (st : St) : Prop := okI ks st o.op ∧ vcOp P C none o st (nxZ P C l.toArray D r Q QJ) noJ
def zP (P : Program) (C : Ctx) (l : List Oper) (D : List Late) (o : Oper) (r : Pz) (QJ : Post) (st : St) : Prop := pureStep P o st (njZ P C l.toArray D r QJ)
@[simp] theorem zQ_app : zQ P C l D ks o r Q QJ st = (okI ks st o.op ∧ vcOp P C none o st (nxZ P C l.toArray D r Q QJ) noJ) := rfl
@[simp] theorem zP_app : zP P C l D o r QJ st = pureStep P o st (njZ P C l.toArray D r QJ) := rfl
@[simp ↓] theorem pureStep_call {f : FuncId} {os : List Operand} {ts : Array TypeId} : pureStep P ⟨d, .call ⟨.value (.func f), os.toArray, ts⟩, t, p, af, g⟩ st next = onPure P f (evs st.fr os) d st next := by
  simp only [pureStep, onPure]
  cases evs st.fr os <;> rfl
def oQ (P : Program) (C : Ctx) (l : List Oper) (D : List Late) (ks : List Nat) (o : Option Oper) (r : Pz) (st : St) (Q QJ : Post) : Prop := match o with
  | some o => gd l.toArray o st (zQ P C l D ks o r Q QJ) (nxZ P C l.toArray D r Q QJ)
  | none => False
def oP (P : Program) (C : Ctx) (l : List Oper) (D : List Late) (o : Option Oper) (r : Pz) (st : St) (Q QJ : Post) : Prop := match o with
  | some o => gd l.toArray o st (zP P C l D o r QJ) (nxZ P C l.toArray D r Q QJ)
  | none => False
def oT (P : Program) (C : Ctx) (l : List Oper) (D : List Late) (i t : Nat) (ti : Option TI) (r : Pz) (st : St) (Q QJ : Post) : Prop := match ti with
  | some ti => t < st.n ∧ vcZ P C l.toArray (D ++ [⟨i, t, st.M.length, ti⟩]) r ⟨st.n, del st.fr t, st.M ++ [none]⟩ Q QJ
  | none => False
def oD (P : Program) (C : Ctx) (l : List Oper) (D : List Late) (i : Nat) (o : Option Oper) (r : Pz) (st : St) (Q QJ : Post) : Prop := match o with
  | some ⟨some t, .alloc T, _, _, _, none⟩ => oT P C l D i t (tyOf P T) r st Q QJ
  | _ => False
@[simp] theorem oQ_some : oQ P C l D ks (some o) r st Q QJ = gd l.toArray o st (zQ P C l D ks o r Q QJ) (nxZ P C l.toArray D r Q QJ) := rfl
@[simp] theorem oP_some : oP P C l D (some o) r st Q QJ = gd l.toArray o st (zP P C l D o r QJ) (nxZ P C l.toArray D r Q QJ) := rfl
@[simp] theorem oT_some {t : Nat} {ti : TI} : oT P C l D i t (some ti) r st Q QJ = (t < st.n ∧ vcZ P C l.toArray (D ++ [⟨i, t, st.M.length, ti⟩]) r ⟨st.n, del st.fr t, st.M ++ [none]⟩ Q QJ) := rfl
@[simp] theorem oD_some {t' : Nat} {T : TypeId} : oD P C l D i (some ⟨some t', .alloc T, t, p, af, none⟩) r st Q QJ = oT P C l D i t' (tyOf P T) r st Q QJ := rfl
@[simp] theorem zqs_nil : Pz.qs [] r = r := rfl
@[simp] theorem zqs_cons {is : List Nat} : Pz.qs (i :: is) r = .q i [] (Pz.qs is r) := rfl
@[simp ↓] theorem vcZ_b {r : Pl} : vcZ P C l.toArray D (.b r) st Q QJ = vcPl P C l.toArray r ⟨st.n, slotsD D st.fr, bindD D st.M⟩ Q QJ := rfl
@[simp ↓] theorem vcZ_q : vcZ P C l.toArray D (.q i ks r) st Q QJ = oQ P C l D ks (oget l i) r st Q QJ := by
  simp only [vcZ, oget_arr]; cases oget l i <;> rfl
@[simp ↓] theorem vcZ_p : vcZ P C l.toArray D (.p i r) st Q QJ = oP P C l D (oget l i) r st Q QJ := by
  simp only [vcZ, oget_arr]; cases oget l i <;> rfl
@[simp ↓] theorem vcZ_d : vcZ P C l.toArray D (.d i r) st Q QJ = oD P C l D i (oget l i) r st Q QJ := by
  simp only [vcZ, oget_arr, oD, oT]
@[simp] theorem slotsD_nil {fr : List (Nat × SV)} : slotsD [] fr = fr := rfl
@[simp] theorem slotsD_cons {d : Late} {fr : List (Nat × SV)} : slotsD (d :: D) fr = (d.t, .ptr d.k 0 0) :: slotsD D fr := rfl
@[simp] theorem bindD_nil {M : Tab} : bindD [] M = M := rfl
@[simp] theorem bindD_cons {d : Late} {M : Tab} : bindD (d :: D) M = tset (bindD D M) d.k (zent d) := by rw [tset_eq]; rfl
@[simp] theorem zent_eq {i t k : Nat} {ti : TI} : zent ⟨i, t, k, ti⟩ = some ⟨ti.size, [ti.zsv], false⟩ := rfl
end
mutual
theorem Sub_self (M : Tab) : ∀ x : SV, x.pure = true → Sub M x x
  | .val v, _ => by simp only [Sub]
  | .ptr _ _ _, h => by simp [SV.pure] at h
  | .view _ _ _, h => by simp [SV.pure] at h
  | .mp _, h => by simp [SV.pure] at h
  | .ro _, _ => rfl
  | .rop _ _, _ => rfl
  | .sen _ _, _ => rfl
  | .any, _ => rfl
  | .fnv _ l r, h => by
    simp only [SV.pure, Bool.and_eq_true] at h
    simp only [Sub]
    exact ⟨trivial, SubL_self M l h.1, SubL_self M r h.2⟩
  | .agg l, h => by simp only [Sub]; exact SubL_self M l (by simpa [SV.pure] using h)
  | .tup l, h => by simp only [Sub]; exact SubL_self M l (by simpa [SV.pure] using h)
  | .ifc _ x, h => by simp only [Sub]; exact ⟨trivial, Sub_self M x (by simpa [SV.pure] using h)⟩
theorem SubL_self (M : Tab) : ∀ l : List SV, SV.pureL l = true → SubL M l l
  | [], _ => by simp only [SubL]
  | x :: l, h => by
    simp only [SV.pureL, Bool.and_eq_true] at h
    simp only [SubL]
    exact ⟨Sub_self M x h.1, SubL_self M l h.2⟩
end
mutual
theorem ks_pure : ∀ x : SV, x.pure = true → x.ks = []
  | .val _, _ => rfl
  | .ptr _ _ _, h => by simp [SV.pure] at h
  | .view _ _ _, h => by simp [SV.pure] at h
  | .mp _, h => by simp [SV.pure] at h
  | .ro _, _ => rfl
  | .rop _ _, _ => rfl
  | .sen _ _, _ => rfl
  | .any, _ => rfl
  | .fnv _ l r, h => by
    simp only [SV.pure, Bool.and_eq_true] at h
    simp [SV.ks, ksL_pure l h.1, ksL_pure r h.2]
  | .agg l, h => by simp only [SV.ks]; exact ksL_pure l (by simpa [SV.pure] using h)
  | .tup l, h => by simp only [SV.ks]; exact ksL_pure l (by simpa [SV.pure] using h)
  | .ifc _ x, h => by simp only [SV.ks]; exact ks_pure x (by simpa [SV.pure] using h)
theorem ksL_pure : ∀ l : List SV, SV.pureL l = true → SV.ksL l = []
  | [], _ => rfl
  | x :: l, h => by
    simp only [SV.pureL, Bool.and_eq_true] at h
    simp [SV.ksL, ks_pure x h.1, ksL_pure l h.2]
end
/-- calls with just the values of the contract, which name no entry -/
theorem callS {P : Program} {C : Ctx} {f : FuncId} {args : List SV} {y : SV} {M : Tab} {W : Option (List Nat)} {k : Tab → List Nat → SV → Prop} (h : PureF P f args y) (hp : SV.pureL args = true) (hk : k M [] y) : CallJ P C f args M W k :=
  callF h (SubL_self M args hp) (by rw [ksL_pure args hp]; exact hk)
end Go.Sv

