/- Regions whose operations may come up in more than one order, where new variables are made beside calls that only make new memory: the new variables count as made last, in the order of the plan. A text of the prover's own; it names no program. -/
import Derived.Test.YtadkomdooleipaaGreatDoorKVy
namespace Go.Sv
open Go Go.RowKit

/-- a new variable that is to come: the operation, its slot, its entry, its type -/
structure Late where
  i : Nat
  t : Nat
  k : Nat
  ti : TI

inductive Pz
  | q (i : Nat) (ks : List Nat) (r : Pz)
  | p (i : Nat) (r : Pz)
  | d (i : Nat) (r : Pz)
  | b (r : Pl)
def Pz.qs : List Nat → Pz → Pz
  | [], r => r
  | i :: is, r => .q i [] (Pz.qs is r)
def Pz.Y : Pz → Nat → List Nat
  | .q _ _ r, x => r.Y x
  | .p _ r, x => r.Y x
  | .d _ r, x => r.Y x
  | .b r, x => r.Y x
def Pz.len : Pz → Nat
  | .q _ _ r => r.len + 1
  | .p _ r => r.len + 1
  | .d _ r => r.len + 1
  | .b r => r.len
/-- those of D that have come -/
def setB (x : Nat → Bool) : List Nat → Array Bool → Array Bool
  | [], L => L
  | i :: D, L => if x i = true then (setB x D L).setIfInBounds i true else setB x D L
/-- whichever of them have come -/
def allE : List Nat → List Nat → Array Bool → (Array Bool → List Nat → Bool) → Bool
  | [], p, L, f => f L p
  | i :: D, p, L, f => allE D (p ++ [i]) L f && allE D p (L.setIfInBounds i true) f

def dstOK (ops : Array Oper) (i : Nat) (D : List (Nat × Nat)) : Bool := match ops[i]? with
  | some o => match o.dst with
    | some t => D.all fun d => d.2 != t
    | none => true
  | none => false

def planZ (ops : Array Oper) : List (Nat × Nat) → Array Bool → Pz → Bool
  | D, L, .d i r => (match ops[i]? with
    | some ⟨some t, .alloc _, _, _, _, none⟩ => !(D.any fun d => d.1 == i) && (!(D.any fun d => d.2 == t) && planZ ops (D ++ [(i, t)]) L r)
    | _ => false)
  | D, L, .q i ks r => dstOK ops i D && (!(D.any fun d => d.1 == i) && (allE (D.map (·.1)) [] L (fun L' _ => qOK ops L' i ks r.Y) && planZ ops D (L.setIfInBounds i true) r))
  | D, L, .p i r => dstOK ops i D && (!(D.any fun d => d.1 == i) && (allE (D.map (·.1)) [] L (fun L' pend => (Region.ready .any ops L').contains i && (Region.ready .any ops L').all fun j => j == i || pend.contains j) && planZ ops D (L.setIfInBounds i true) r))
  | D, L, .b r => allE (D.map (·.1)) [] L (fun L' pend => pend.isEmpty || (!(Region.ready .any ops L').isEmpty && (Region.ready .any ops L').all fun j => pend.contains j)) && planOK ops (setB (fun _ => true) (D.map (·.1)) L) r

/-- a call that only makes new memory, whatever order is picked -/
def PureJ (P : Program) (f : FuncId) (xs : List SV) (M : Tab) (K : SV → Prop) : Prop := SV.ksL xs = [] ∧ ∃ args' Φ, SubL M xs args' ∧ PureC P f args' Φ ∧ ∀ x, Φ x → K x
def pureStep (P : Program) (o : Oper) (st : St) (K : St → Prop) : Prop := match o.op with
  | .call ⟨.value (.func f), args, _⟩ => match evs st.fr args.toList with
    | some xs => callOK P f ∧ dok o.dst st.n ∧ PureJ P f xs st.M fun x => K ⟨st.n, putO o.dst (some x) st.fr, st.M⟩
    | none => False
  | _ => False
def zent (d : Late) : Option Ent := some ⟨d.ti.size, [d.ti.zsv], false⟩
def slotsD : List Late → List (Nat × SV) → List (Nat × SV)
  | [], fr => fr
  | d :: D, fr => (d.t, .ptr d.k 0 0) :: slotsD D fr
def bindD : List Late → Tab → Tab
  | [], M => M
  | d :: D, M => (bindD D M).set d.k (zent d)
def vcZ (P : Program) (C : Ctx) (ops : Array Oper) : List Late → Pz → St → Post → Post → Prop
  | D, .d i r, st, Q, QJ => (match ops[i]? with
    | some ⟨some t, .alloc T, _, _, _, none⟩ => match tyOf P T with
      | some ti => t < st.n ∧ vcZ P C ops (D ++ [⟨i, t, st.M.length, ti⟩]) r ⟨st.n, del st.fr t, st.M ++ [none]⟩ Q QJ
      | none => False
    | _ => False)
  | D, .q i ks r, st, Q, QJ => match ops[i]? with
    | none => False
    | some o => gd ops o st (fun st' => okI ks st' o.op ∧ vcOp P C none o st' (fun st'' => vcZ P C ops D r st'' Q QJ) (fun _ => False)) (fun st' => vcZ P C ops D r st' Q QJ)
  | D, .p i r, st, Q, QJ => match ops[i]? with
    | none => False
    | some o => gd ops o st (fun st' => pureStep P o st' (fun st'' => vcZ P C ops D r st'' QJ QJ)) (fun st' => vcZ P C ops D r st' Q QJ)
  | D, .b r, st, Q, QJ => vcPl P C ops r ⟨st.n, slotsD D st.fr, bindD D st.M⟩ Q QJ

section
variable {P : Program} {C : Ctx} {ops : Array Oper} {L : Array Bool} {Q QJ : Post} {st : St} {β : Bnd} {H : Hp} {a : Act} {w : World} {M : Tab}

theorem setB_comm (x : Nat → Bool) (D : List Nat) (L : Array Bool) (i : Nat) : setB x D (L.setIfInBounds i true) = (setB x D L).setIfInBounds i true := by
  induction D with
  | nil => rfl
  | cons j D ih =>
    simp only [setB]
    rw [ih]
    split
    · by_cases e : i = j
      · subst e; rfl
      · rw [Array.setIfInBounds_comm _ _ e]
    · rfl
def plus1 (x : Nat → Bool) (j : Nat) : Nat → Bool := fun i => x i || i == j
theorem setB_plus (x : Nat → Bool) (j : Nat) (D : List Nat) (L : Array Bool) : setB (plus1 x j) D L = if j ∈ D then (setB x D L).setIfInBounds j true else setB x D L := by
  induction D with
  | nil => rfl
  | cons i D ih =>
    simp only [setB, plus1, ih]
    by_cases e : i = j
    · subst e
      simp only [beq_self_eq_true, Bool.or_true, if_true, List.mem_cons, true_or]
      split <;> split <;> simp
    · have e' : ¬ j = i := fun h => e h.symm
      simp only [beq_iff_eq, e, e', Bool.or_eq_true, or_false, List.mem_cons, false_or]
      split
      · split
        · rw [Array.setIfInBounds_comm _ _ e']
        · rfl
      · rfl
theorem allE_spec {f : Array Bool → List Nat → Bool} (x : Nat → Bool) : ∀ (D p : List Nat) (L : Array Bool), allE D p L f = true →
    ∃ q, f (setB x D L) q = true ∧ ∀ j, j ∈ q ↔ j ∈ p ∨ (j ∈ D ∧ x j = false)
  | [], p, L, h => ⟨p, h, fun j => by simp⟩
  | i :: D, p, L, h => by
    simp only [allE, Bool.and_eq_true] at h
    simp only [setB]
    by_cases hx : x i = true
    · obtain ⟨q, h1, h2⟩ := allE_spec x D p _ h.2
      rw [setB_comm] at h1
      rw [if_pos hx]
      refine ⟨q, h1, fun j => ?_⟩
      rw [h2 j]
      simp only [List.mem_cons]
      constructor
      · rintro (h | h)
        · exact .inl h
        · exact .inr ⟨.inr h.1, h.2⟩
      · rintro (h | ⟨h | h, h'⟩)
        · exact .inl h
        · subst h; rw [hx] at h'; cases h'
        · exact .inr ⟨h, h'⟩
    · obtain ⟨q, h1, h2⟩ := allE_spec x D _ L h.1
      rw [if_neg hx]
      refine ⟨q, h1, fun j => ?_⟩
      rw [h2 j]
      simp only [List.mem_append, List.mem_cons, List.not_mem_nil, or_false]
      have hx' : x i = false := by simpa using hx
      constructor
      · rintro ((h | h) | h)
        · exact .inl h
        · subst h; exact .inr ⟨.inl rfl, hx'⟩
        · exact .inr ⟨.inr h.1, h.2⟩
      · rintro (h | ⟨h | h, h'⟩)
        · exact .inl (.inl h)
        · exact .inl (.inr h)
        · exact .inr ⟨h, h'⟩

/-! the table, with those that have come -/
def bindB (x : Nat → Bool) : List Late → Tab → Tab
  | [], M => M
  | d :: D, M => if x d.i = true then (bindB x D M).set d.k (zent d) else bindB x D M
theorem bindB_len (x : Nat → Bool) (D : List Late) (M : Tab) : (bindB x D M).length = M.length := by
  induction D with
  | nil => rfl
  | cons d D ih => simp only [bindB]; split <;> simp [ih]
theorem bindB_other {x : Nat → Bool} {D : List Late} {M : Tab} {k : Nat} (h : ∀ d ∈ D, x d.i = true → d.k ≠ k) : (bindB x D M)[k]? = M[k]? := by
  induction D with
  | nil => rfl
  | cons d D ih =>
    have ih := ih fun e he => h e (by simp [he])
    simp only [bindB]
    split
    · rename_i hx; rw [List.getElem?_set_ne (h d (by simp) hx)]; exact ih
    · exact ih
/-- nothing of what is known is lost -/
theorem bindB_sub {x : Nat → Bool} {D : List Late} {M : Tab} (h : ∀ d ∈ D, M[d.k]? = some none) {k : Nat} {e : Ent} (hk : M[k]? = some (some e)) : (bindB x D M)[k]? = some (some e) := by
  rw [bindB_other fun d hd _ e' => ?_]
  · exact hk
  · have := h d hd; rw [e', hk] at this; cases this
theorem bindB_plus {x : Nat → Bool} {D : List Late} {M : Tab} {d : Late} (hd : d ∈ D) (hn : (D.map (·.i)).Nodup) (hk : (D.map (·.k)).Nodup) : bindB (plus1 x d.i) D M = (bindB x D M).set d.k (zent d) := by
  induction D with
  | nil => cases hd
  | cons c D ih =>
    simp only [List.map_cons, List.nodup_cons] at hn hk
    simp only [bindB]
    rcases List.mem_cons.1 hd with rfl | hd
    · have hnot : ∀ e ∈ D, e.i ≠ d.i := fun e he h => hn.1 (List.mem_map.2 ⟨e, he, h⟩)
      have hsame : bindB (plus1 x d.i) D M = bindB x D M := by
        clear ih hn hk
        induction D with
        | nil => rfl
        | cons e D ih' =>
          simp only [bindB]
          rw [ih' (by simp) fun e' he' => hnot e' (by simp [he'])]
          have : plus1 x d.i e.i = x e.i := by simp [plus1, hnot e (by simp)]
          rw [this]
      rw [hsame, if_pos (by simp [plus1])]
      split
      · simp
      · rfl
    · have hne : c.i ≠ d.i := fun h => hn.1 (List.mem_map.2 ⟨d, hd, h.symm⟩)
      have hnk : c.k ≠ d.k := fun h => hk.1 (List.mem_map.2 ⟨d, hd, h.symm⟩)
      have : plus1 x d.i c.i = x c.i := by simp [plus1, hne]
      rw [this, ih hd hn.2 hk.2]
      split
      · rw [List.set_comm _ _ hnk.symm]
      · rfl

/-- a new block for an entry that is kept free -/
theorem WOK.allocAt (h : WOK C β H M w) {k : Nat} (hk0 : M[k]? = some none) (hb0 : β k = none) {cs : Array Value} {T : TypeId} {s : Nat} {es : List SV} {vs : List Value} (hd : DenE β H s es vs) (hl : vs.length ≤ cs.size)
    (hc : ∀ i, i < vs.length → cs[i]? = vs[i]?) :
    WOK C (β.upd k (some ⟨w.heap.size, cs.size, s⟩)) H (M.set k (some ⟨s, es, false⟩)) (w.alloc (.cells cs T)) := by
  have up : ∀ j d, β j = some d → (β.upd k (some ⟨w.heap.size, cs.size, s⟩)) j = some d := fun j d hj => by
    simp only [Bnd.upd]; rw [if_neg]; exact hj
    intro e; subst e; rw [hb0] at hj; cases hj
  have hkl : k < M.length := by
    rcases Nat.lt_or_ge k M.length with h' | h'
    · exact h'
    · rw [List.getElem?_eq_none h'] at hk0; cases hk0
  have cases' : ∀ {j : Nat} {e : Ent}, (M.set k (some ⟨s, es, false⟩))[j]? = some (some e) → (j ≠ k ∧ M[j]? = some (some e)) ∨ (j = k ∧ e = ⟨s, es, false⟩) := fun {j e} hj => by
    by_cases ej : j = k
    · subst ej
      rw [List.getElem?_set_self hkl] at hj
      simp only [Option.some.injEq] at hj
      exact .inr ⟨rfl, hj.symm⟩
    · rw [List.getElem?_set_ne (Ne.symm ej)] at hj
      exact .inl ⟨ej, hj⟩
  exact {
    os := h.os, tape := h.tape, output := h.output
    size := by have := h.size; simp; omega
    frame := fun b hb hx => by rw [heap_alloc_old (by have := h.size; omega)]; exact h.frame b hb hx
    ext := h.ext, new := h.new
    inv := fun b cs' hb => by obtain ⟨T', z, h'⟩ := h.inv b cs' hb; exact ⟨T', z, by rw [heap_alloc_old (heap_lt h')]; exact h'⟩
    ents := fun j e hj => by
      rcases cases' hj with ⟨hne, hj'⟩ | ⟨rfl, rfl⟩
      · exact (h.ents j e hj').up up (fun _ _ h => h) (fun d hd' => heap_alloc_old (h.lt hj' hd'))
      · exact .inr (.inl ⟨_, cs, T, vs, by simp [Bnd.upd]; rfl, rfl, heap_alloc_new, rfl, DenE.mono (fun _ _ h => h) _ _ _ (fun k d _ => up k d) hd, hl, hc, fun hf => by cases hf⟩)
    own := fun j e d hj hd' => by
      rcases cases' hj with ⟨hne, hj'⟩ | ⟨rfl, rfl⟩
      · simp only [Bnd.upd] at hd'; rw [if_neg hne] at hd'; exact h.own j e d hj' hd'
      · simp only [Bnd.upd, if_true, Option.some.injEq] at hd'
        subst hd'
        refine ⟨fun _ => ?_, .inl h.size⟩
        cases hH : H w.heap.size with
        | none => rfl
        | some cs' => have := h.hlt hH; omega
    inj := fun j j' e e' d d' hj hj' hd1 hd2 hb => by
      rcases cases' hj with ⟨hn1, hk1⟩ | ⟨rfl, rfl⟩ <;> rcases cases' hj' with ⟨hn2, hk2⟩ | ⟨rfl, rfl⟩
      · simp only [Bnd.upd] at hd1 hd2; rw [if_neg hn1] at hd1; rw [if_neg hn2] at hd2; exact h.inj j j' e e' d d' hk1 hk2 hd1 hd2 hb
      · simp only [Bnd.upd] at hd1 hd2; rw [if_neg hn1] at hd1; simp only [if_true, Option.some.injEq] at hd2; subst hd2
        have := h.lt hk1 hd1; simp only at hb; omega
      · simp only [Bnd.upd] at hd1 hd2; rw [if_neg hn2] at hd2; simp only [if_true, Option.some.injEq] at hd1; subst hd1
        have := h.lt hk2 hd2; simp only at hb; omega
      · rfl
    fresh := fun j hj => by
      simp only [List.length_set] at hj
      simp only [Bnd.upd]; rw [if_neg (by omega)]; exact h.fresh j hj
    keep := fun j d hj hd => up j d (h.keep j d hj hd)
    glob := h.glob }
theorem WOK.sub {M' : Tab} (h : WOK C β H M w) (hl : M'.length = M.length) (hs : ∀ (k : Nat) (e : Ent), M'[k]? = some (some e) → M[k]? = some (some e)) : WOK C β H M' w :=
  ⟨h.os, h.tape, h.output, h.size, h.frame, h.ext, h.new, h.inv, fun k e hk => h.ents k e (hs k e hk), fun k e d hk => h.own k e d (hs k e hk), fun k k' e e' d d' hk hk' => h.inj k k' e e' d d' (hs k e hk) (hs k' e' hk'), fun k hk => h.fresh k (by omega), h.keep, h.glob⟩

/-- where a walk stands: what is told of the state, with those new variables that have come -/
structure ZS (C : Ctx) (n : Nat) (fr : List (Nat × SV)) (M : Tab) (D : List Late) (x : Nat → Bool) (β : Bnd) (H : Hp) (a : Act) (w : World) : Prop where
  F : FOK β H n fr a
  W : WOK C β H (bindB x D M) w
  S : ∀ d ∈ D, x d.i = true → ∃ v, a.tmps[d.t]? = some v ∧ Den β H (.ptr d.k 0 0) v
  N : ∀ d ∈ D, x d.i = false → β d.k = none
/-- what is asked of the list of those to come -/
structure DOK (P : Program) (ops : Array Oper) (n : Nat) (fr : List (Nat × SV)) (M : Tab) (D : List Late) : Prop where
  o : ∀ d ∈ D, ∃ T ty p af, ops[d.i]? = some ⟨some d.t, .alloc T, ty, p, af, none⟩ ∧ tyOf P T = some d.ti
  ni : (D.map (·.i)).Nodup
  nk : (D.map (·.k)).Nodup
  M : ∀ d ∈ D, M[d.k]? = some none
  t : ∀ d ∈ D, d.t < n
  nt : (D.map (·.t)).Nodup
  fr : ∀ d ∈ D, get fr d.t = none
def DOK.pairs (D : List Late) : List (Nat × Nat) := D.map fun d => (d.i, d.t)

theorem inj_nodup {α : Type} (f : α → Nat) : ∀ {D : List α}, (D.map f).Nodup → ∀ {a b : α}, a ∈ D → b ∈ D → f a = f b → a = b
  | [], _, _, _, h, _, _ => by cases h
  | c :: D, hn, a, b, ha, hb, e => by
    simp only [List.map_cons, List.nodup_cons] at hn
    obtain ⟨h1, h2⟩ := hn
    rcases List.mem_cons.1 ha with ea | ha' <;> rcases List.mem_cons.1 hb with eb | hb'
    · rw [ea, eb]
    · subst ea; exact absurd (List.mem_map.2 ⟨b, hb', e.symm⟩) h1
    · subst eb; exact absurd (List.mem_map.2 ⟨a, ha', e⟩) h1
    · exact inj_nodup f h2 ha' hb' e
theorem get_put_none {fr : List (Nat × SV)} {t : Nat} {d : Option Tmp} {x : Option SV} (h : get fr t = none) (hd : ∀ s, d = some s → s ≠ t) : get (putO d x fr) t = none := by
  cases d with
  | none => cases x <;> exact h
  | some s => cases x with
    | none =>
      cases hg : get (putO (some s) none fr) t with
      | none => rfl
      | some y => rw [(get_del_ne hg).2] at h; cases h
    | some y => simp only [putO, get]; rw [if_neg (hd s rfl)]; exact h
theorem get_del_none {fr : List (Nat × SV)} {t s : Nat} (h : get fr t = none ∨ t = s) : get (del fr s) t = none := by
  cases hg : get (del fr s) t with
  | none => rfl
  | some y =>
    obtain ⟨h1, h2⟩ := get_del_ne hg
    rcases h with h | h
    · rw [h] at h2; cases h2
    · exact absurd h h1

/-- one of those to come comes -/
theorem ZS.come {n : Nat} {fr : List (Nat × SV)} {D : List Late} {x : Nat → Bool} (hD : DOK P ops n fr M D) (h : ZS C n fr M D x β H a w) {d : Late} (hd : d ∈ D) (hx : x d.i = false) :
    ∃ o v w' bd, ops[d.i]? = some o ∧ o.guard = none ∧ (execOp a.eval o).run P w = .ok (.value v) w' ∧ bd.b = w.heap.size ∧ w.heap.size ≤ w'.heap.size ∧ (∀ b, b < w.heap.size → w'.heap[b]? = w.heap[b]?) ∧
      ZS C n fr M D (plus1 x d.i) (β.upd d.k (some bd)) H (a.put o.dst v) w' := by
  obtain ⟨T, ty, p, af, ho, hti⟩ := hD.o d hd
  obtain ⟨i1, d1, z1, ht⟩ := tyOf_spec hti
  obtain ⟨v, hv1, hv2, hv3⟩ := zsv_den ht β H
  have hnone : (bindB x D M)[d.k]? = some none := by
    rw [bindB_other fun e he hxe hk => ?_]
    · exact hD.M d hd
    · have : e = d := inj_nodup _ hD.nk he hd hk
      rw [this, hx] at hxe; cases hxe
  have hW := h.W.allocAt (T := T) (cs := z1.cells) (s := d.ti.size) (es := [d.ti.zsv]) (vs := v.cells.toList) hnone (h.N d hd hx) (by simp only [DenE]; exact ⟨v, [], by simp, by rw [hv2, hv3], hv1, rfl⟩) (by simp [hv2]) (fun q hq => by simp [hv2])
  have up : ∀ j e, β j = some e → (β.upd d.k (some ⟨w.heap.size, z1.cells.size, d.ti.size⟩)) j = some e := fun j e hj => by
    simp only [Bnd.upd]; rw [if_neg]; exact hj
    intro e'; subst e'; rw [h.N d hd hx] at hj; cases hj
  have htn := hD.t d hd
  refine ⟨_, .pointer (some ⟨w.heap.size, 0, none⟩), w.alloc (.cells z1.cells T), ⟨w.heap.size, z1.cells.size, d.ti.size⟩, ho, rfl, ?_, rfl, by simp, fun b hb => heap_alloc_old hb, ?_, ?_, fun e he hxe => ?_, fun e he hxe => ?_⟩
  · simp [execOp, Instr.alloc, ht.runZero, newVar, newRow]
  · have := (h.F.mono up (fun _ _ h => h)).skip d.t (.pointer (some ⟨w.heap.size, 0, none⟩))
    refine this.sub fun t' y hg => ?_
    have hne : t' ≠ d.t := fun e => by rw [e, hD.fr d hd] at hg; cases hg
    have key : ∀ l : List (Nat × SV), get (del l d.t) t' = get l t' := fun l => by
      induction l with
      | nil => rfl
      | cons q l ih =>
        obtain ⟨s, z⟩ := q
        simp only [del, List.filter_cons]
        by_cases e : s = d.t
        · subst e
          simp only [beq_self_eq_true, Bool.not_true, Bool.false_eq_true, if_false, get]
          rw [if_neg (Ne.symm hne)]; exact ih
        · simp only [beq_iff_eq, e, Bool.not_eq_true', beq_eq_false_iff_ne, ne_eq, not_false_eq_true, if_true, get]
          split
          · rfl
          · exact ih
    rw [key]; exact hg
  · rw [bindB_plus hd hD.ni hD.nk]; exact hW
  · by_cases e1 : e.i = d.i
    · have : e = d := inj_nodup _ hD.ni he hd e1
      subst this
      refine ⟨_, by simp [Act.put, h.F.2.1, htn]; rfl, ?_⟩
      simp only [Den]
      exact ⟨_, by simp [Bnd.upd]; rfl, by simp⟩
    · have hx' : x e.i = true := by simpa [plus1, e1] using hxe
      obtain ⟨v', hv', hden⟩ := h.S e he hx'
      have hne : d.t ≠ e.t := fun h' => e1 (by rw [inj_nodup _ hD.nt he hd h'.symm])
      refine ⟨v', by simp only [Act.put]; rw [Array.getElem?_setIfInBounds_ne hne]; exact hv', hden.up up (fun _ _ h => h)⟩
  · have e1 : e.i ≠ d.i := fun h' => by simp [plus1, h'] at hxe
    have hx' : x e.i = false := by simpa [plus1, e1] using hxe
    have hne : e.k ≠ d.k := fun h' => e1 (by rw [inj_nodup _ hD.nk he hd h'])
    simp only [Bnd.upd]; rw [if_neg hne]; exact h.N e he hx'

def cnt (x : Nat → Bool) (D : List Late) : Nat := (D.filter fun d => !x d.i).length
theorem cnt_plus {x : Nat → Bool} {D : List Late} {d : Late} (hd : d ∈ D) (hn : (D.map (·.i)).Nodup) (hx : x d.i = false) : cnt x D = cnt (plus1 x d.i) D + 1 := by
  induction D with
  | nil => cases hd
  | cons c D ih =>
    simp only [List.map_cons, List.nodup_cons] at hn
    simp only [cnt, List.filter_cons]
    rcases List.mem_cons.1 hd with rfl | hd
    · have hsame : (D.filter fun e => !plus1 x d.i e.i) = D.filter fun e => !x e.i := List.filter_congr fun e he => by
        have : e.i ≠ d.i := fun h => hn.1 (List.mem_map.2 ⟨e, he, h⟩)
        simp [plus1, this]
      rw [if_pos (by simp [hx]), if_neg (by simp [plus1]), hsame]; rfl
    · have hne : c.i ≠ d.i := fun h => hn.1 (List.mem_map.2 ⟨d, hd, h.symm⟩)
      have := ih hd hn.2
      simp only [cnt] at this
      have e : plus1 x d.i c.i = x c.i := by simp [plus1, hne]
      rw [e]
      split <;> simp [this]
theorem cnt_zero {x : Nat → Bool} {D : List Late} (h : ∀ d ∈ D, x d.i = true) : cnt x D = 0 := by
  simp only [cnt, List.length_eq_zero_iff, List.filter_eq_nil_iff]
  intro d hd; simp [h d hd]

theorem Wb_late {k : Nat} {bd : Bd} {s s' : Nat} {ks : List Nat} {b : Nat} (hs : s ≤ s') (hb : bd.b = s) (h : Wb (β.upd k (some bd)) s' ks b) : Wb β s ks b := by
  obtain ⟨h1, h2⟩ := h
  refine ⟨h1, ?_⟩
  rcases h2 with h2 | h2 | ⟨j, h3, d, h4, h5⟩
  · exact .inl h2
  · exact .inr (.inl (by omega))
  · by_cases e : j = k
    · subst e
      simp only [Bnd.upd, if_true, Option.some.injEq] at h4
      subst h4
      exact .inr (.inl (by omega))
    · simp only [Bnd.upd] at h4
      rw [if_neg e] at h4
      exact .inr (.inr ⟨j, h3, d, h4, h5⟩)

/-- what is to be shown of a plan, whichever of those to come have come -/
def ZJ (P : Program) (C : Ctx) (ops : Array Oper) (pl : Pz) (D : List Late) (st : St) (Q : Post) : Prop :=
  Region.noSelect ops = true → ∀ L, planZ ops (DOK.pairs D) L pl = true → DOK P ops st.n st.fr st.M D → ∀ (m : Nat) (x : Nat → Bool) β H a w, cnt x D = m → ZS C st.n st.fr st.M D x β H a w →
    wpG P ops (QQ C Q) (fun j w1 w2 => GG H (Wb β w.heap.size (pl.Y j)) w1 w2) (pl.len + m) (setB x (D.map (·.i)) L) a w

theorem late_ind {pl : Pz} {D : List Late} (hD : DOK P ops st.n st.fr st.M D)
    (step : ∀ (x : Nat → Bool) β H a w, ZS C st.n st.fr st.M D x β H a w →
      (∀ d ∈ D, x d.i = false → wpOp P ops (QQ C Q) d.i (fun a' w' => GG H (Wb β w.heap.size (pl.Y d.i)) w w' ∧ wpG P ops (QQ C Q) (fun j w1 w2 => GG H (Wb β w.heap.size (pl.Y j)) w1 w2) (pl.len + cnt x D - 1) ((setB x (D.map (·.i)) L).setIfInBounds d.i true) a' w') a w) →
      wpG P ops (QQ C Q) (fun j w1 w2 => GG H (Wb β w.heap.size (pl.Y j)) w1 w2) (pl.len + cnt x D) (setB x (D.map (·.i)) L) a w) :
    ∀ (m : Nat) (x : Nat → Bool) β H a w, cnt x D = m → ZS C st.n st.fr st.M D x β H a w → wpG P ops (QQ C Q) (fun j w1 w2 => GG H (Wb β w.heap.size (pl.Y j)) w1 w2) (pl.len + m) (setB x (D.map (·.i)) L) a w := by
  intro m
  induction m with
  | zero =>
    intro x β H a w hm hZ
    have h := step x β H a w hZ (fun d hd hx => by have := cnt_plus hd hD.ni hx; omega)
    rw [hm] at h; exact h
  | succ m ih =>
    intro x β H a w hm hZ
    have h := step x β H a w hZ (fun d hd hx => ?_)
    · rw [hm] at h; exact h
    · obtain ⟨o, v, w', bd, h1, h2, h3, h4, h5, h6, h7⟩ := hZ.come hD hd hx
      have hc := cnt_plus hd hD.ni hx
      have hih := ih (plus1 x d.i) _ H _ w' (by omega) h7
      have hset : setB (plus1 x d.i) (D.map (·.i)) L = (setB x (D.map (·.i)) L).setIfInBounds d.i true := by
        rw [setB_plus, if_pos (List.mem_map.2 ⟨d, hd, rfl⟩)]
      rw [hset] at hih
      unfold wpOp
      simp only [h1]
      rw [if_pos (by simp [Region.wanted, h2])]
      left
      simp only [Oper.wp, h3, Oper.upon]
      refine ⟨⟨⟨h5, fun b hb _ => h6 b hb⟩, fun b cs hb => ?_⟩, ?_⟩
      · obtain ⟨T, z, hz⟩ := hZ.W.inv b cs hb
        exact ⟨T, z, by rw [h6 b (heap_lt hz)]; exact hz⟩
      · have e : pl.len + cnt x D - 1 = pl.len + m := by omega
        rw [e]
        exact wpG_mono _ _ _ _ (fun j w1 w2 _ hr => ⟨hr.1.mono fun b _ hb => Wb_late h5 h4 hb, hr.2⟩) hih

theorem get_skip_none {fr : List (Nat × SV)} {n s : Nat} {d : Option Nat} (h : get fr s = none) (hd : ∀ t, d = some t → t ≠ s) : get (skipO n d fr) s = none := by
  cases d with
  | none => exact h
  | some t =>
    simp only [skipO]
    split
    · simp only [get]; rw [if_neg (hd t rfl)]; exact h
    · exact get_del_none (.inl h)
theorem gd_okZ {o : Oper} {yes no : St → Prop} (h : gd ops o st yes no) (hF : FOK β H st.n st.fr a) :
    (Region.wanted o (yielded ops a.tmps) = true ∧ ∃ fr, (∀ s, get st.fr s = none → get fr s = none) ∧ FOK β H st.n fr a ∧ yes ⟨st.n, fr, st.M⟩) ∨
      (Region.wanted o (yielded ops a.tmps) = false ∧ ∃ fr, (∀ s, get st.fr s = none → (∀ t, o.dst = some t → t ≠ s) → get fr s = none) ∧ FOK β H st.n fr (a.put o.dst undef) ∧ no ⟨st.n, fr, st.M⟩) := by
  unfold gd at h
  split at h
  · rename_i hg
    exact .inl ⟨by simp [Region.wanted, hg], _, fun _ h => h, hF, h⟩
  · rename_i j b hg
    split at h
    · rename_i t ht
      split at h
      · rename_i c hc
        obtain ⟨v, hv, hden⟩ := hF.2.2 t _ hc
        simp only [Den] at hden
        obtain ⟨rfl, -⟩ := hden
        have hy : yielded ops a.tmps j = some c := by
          unfold yielded
          simp only [gslot] at ht
          rw [ht]
          simp [hv]
        have hsub : ∀ b', c = b' → FOK β H st.n ((t, .val (.bool b')) :: st.fr) a := fun b' hb => by
          subst hb
          refine hF.sub fun t' x' hg' => ?_
          simp only [get] at hg'
          split at hg'
          · rename_i e; subst e; simp only [Option.some.injEq] at hg'; subst hg'; exact hc
          · exact hg'
        have hn : ∀ (b' : Bool) s, get st.fr s = none → get ((t, .val (.bool b')) :: st.fr) s = none := fun b' s hs => by
          simp only [get]; rw [if_neg]; exact hs
          intro e; subst e; rw [hs] at hc; cases hc
        by_cases hcb : c = b
        · exact .inl ⟨by simp [Region.wanted, hg, hy, hcb], _, hn b, hsub b hcb, h.1 hcb⟩
        · have hcb' : c = !b := by cases c <;> cases b <;> simp_all
          exact .inr ⟨by simp [Region.wanted, hg, hy, hcb], _, fun s hs hd => get_skip_none (hn _ s hs) hd, (hsub _ hcb').skipO o.dst, h.2 hcb'⟩
      · rename_i hc
        obtain ⟨v, hv, hden⟩ := hF.2.2 t _ hc
        obtain rfl := den_tup0 hden
        have hy : yielded ops a.tmps j = none := by
          unfold yielded
          simp only [gslot] at ht
          rw [ht]
          simp [hv]
        exact .inr ⟨by simp [Region.wanted, hg, hy], _, fun s hs hd => get_skip_none hs hd, hF.skipO o.dst, h⟩
      · exact h.elim
    · exact h.elim

theorem DOK.frame {n : Nat} {fr fr' : List (Nat × SV)} {D : List Late} (h : DOK P ops n fr M D) (hf : ∀ d ∈ D, get fr' d.t = none) : DOK P ops n fr' M D := ⟨h.o, h.ni, h.nk, h.M, h.t, h.nt, hf⟩
theorem put_slot {D : List Late} {i : Nat} {o : Oper} (ho : ops[i]? = some o) (h : dstOK ops i (DOK.pairs D) = true) : ∀ d ∈ D, ∀ s, o.dst = some s → s ≠ d.t := fun d hd s hs e => by
  simp only [dstOK, ho, hs, List.all_eq_true, DOK.pairs, List.mem_map, bne_iff_ne, ne_eq, forall_exists_index, and_imp] at h
  exact h _ d hd rfl e.symm
theorem ZS.put {n : Nat} {fr fr' : List (Nat × SV)} {D : List Late} {x : Nat → Bool} {d0 : Option Tmp} {v : Value} (h : ZS C n fr M D x β H a w) (hF : FOK β H n fr' (a.put d0 v)) (hd : ∀ d ∈ D, ∀ s, d0 = some s → s ≠ d.t) : ZS C n fr' M D x β H (a.put d0 v) w :=
  ⟨hF, h.W, fun d hd' hx => by
    obtain ⟨v', hv', hden⟩ := h.S d hd' hx
    refine ⟨v', ?_, hden⟩
    cases d0 with
    | none => exact hv'
    | some s => simp only [Act.put]; rw [Array.getElem?_setIfInBounds_ne (hd d hd' s rfl)]; exact hv', h.N⟩
theorem ZS.wok {n : Nat} {fr : List (Nat × SV)} {D : List Late} {x : Nat → Bool} (hD : DOK P ops n fr M D) (h : ZS C n fr M D x β H a w) : WOK C β H M w :=
  h.W.sub (by rw [bindB_len]) fun k e hk => bindB_sub hD.M hk

theorem bindB_congr {x y : Nat → Bool} {D : List Late} (h : ∀ d ∈ D, x d.i = y d.i) (M : Tab) : bindB x D M = bindB y D M := by
  induction D with
  | nil => rfl
  | cons d D ih => simp only [bindB]; rw [ih fun e he => h e (by simp [he]), h d (by simp)]
theorem bindB_all {x : Nat → Bool} {D : List Late} (h : ∀ d ∈ D, x d.i = true) (M : Tab) : bindB x D M = bindD D M := by
  induction D with
  | nil => rfl
  | cons d D ih => simp only [bindB, bindD]; rw [ih fun e he => h e (by simp [he]), if_pos (h d (by simp))]
theorem bindB_snoc {x : Nat → Bool} {D : List Late} {c : Late} (h : x c.i = false) (M : Tab) : bindB x (D ++ [c]) M = bindB x D M := by
  induction D with
  | nil => simp [bindB, h]
  | cons d D ih => simp only [List.cons_append, bindB, ih]
theorem bindB_app {x : Nat → Bool} {D : List Late} {M : Tab} (h : ∀ d ∈ D, d.k < M.length) : bindB x D (M ++ [none]) = bindB x D M ++ [none] := by
  induction D with
  | nil => rfl
  | cons d D ih =>
    simp only [bindB]
    rw [ih fun e he => h e (by simp [he])]
    split
    · rw [List.set_append_left _ _ (by rw [bindB_len]; exact h d (by simp))]
    · rfl
theorem setB_congr {x y : Nat → Bool} {D : List Nat} (h : ∀ i ∈ D, x i = y i) (L : Array Bool) : setB x D L = setB y D L := by
  induction D with
  | nil => rfl
  | cons d D ih => simp only [setB]; rw [ih fun e he => h e (by simp [he]), h d (by simp)]
theorem setB_snoc {x : Nat → Bool} {D : List Nat} {c : Nat} (h : x c = false) (L : Array Bool) : setB x (D ++ [c]) L = setB x D L := by
  induction D with
  | nil => simp [setB, h]
  | cons d D ih => simp only [List.cons_append, setB, ih]
theorem WOK.grow (h : WOK C β H M w) : WOK C β H (M ++ [none]) w :=
  have e : ∀ {k : Nat} {e : Ent}, (M ++ [none])[k]? = some (some e) → M[k]? = some (some e) := fun {k e} hk => by
    rcases getElem?_snoc hk with ⟨_, h'⟩ | ⟨_, h'⟩
    · exact h'
    · cases h'
  ⟨h.os, h.tape, h.output, h.size, h.frame, h.ext, h.new, h.inv, fun k e' hk => h.ents k e' (e hk), fun k e' d hk => h.own k e' d (e hk), fun k k' e1 e2 d d' hk hk' => h.inj k k' e1 e2 d d' (e hk) (e hk'),
    fun k hk => h.fresh k (by simp at hk; omega), h.keep, h.glob⟩
theorem slots_fok {n : Nat} {fr : List (Nat × SV)} (hF : FOK β H n fr a) : ∀ (D : List Late), (∀ d ∈ D, ∃ v, a.tmps[d.t]? = some v ∧ Den β H (.ptr d.k 0 0) v) → FOK β H n (slotsD D fr) a
  | [], _ => hF
  | d :: D, h => by
    have ih := slots_fok hF D fun e he => h e (by simp [he])
    refine ⟨ih.1, ih.2.1, fun t y hg => ?_⟩
    simp only [slotsD, get] at hg
    split at hg
    · rename_i e
      subst e
      simp only [Option.some.injEq] at hg
      subst hg
      exact h d (by simp)
    · exact ih.2.2 t y hg

theorem vcZ_ok {R : Post} (np : ∀ c st, ¬ R (.panic c) st) : ∀ (pl : Pz) (D : List Late) (st : St) {Q QJ : Post}, (∀ e st, Q e st → R e st) → (∀ e st, QJ e st → R e st) → vcZ P C ops D pl st Q QJ → ZJ P C ops pl D st R
  | .d i r, D, st, Q, QJ, hQ, hJ, h => fun hns L hL hD m x β H a w hm hZ => by
    simp only [vcZ] at h
    split at h
    · rename_i t T ty p af ho
      split at h
      · rename_i ti hti
        obtain ⟨htn, h⟩ := h
        simp only [planZ, ho, Bool.and_eq_true, Bool.not_eq_true'] at hL
        obtain ⟨h1, h2, h3⟩ := hL
        have hni : ∀ d ∈ D, d.i ≠ i := fun d hd e => by
          have : (DOK.pairs D).any (fun d => d.1 == i) = true := by
            simp only [DOK.pairs, List.any_eq_true, List.mem_map]
            exact ⟨(d.i, d.t), ⟨d, hd, rfl⟩, by simp [e]⟩
          rw [this] at h1; cases h1
        have hkl : ∀ d ∈ D, d.k < st.M.length := fun d hd => by
          have := hD.M d hd
          rcases Nat.lt_or_ge d.k st.M.length with h' | h'
          · exact h'
          · rw [List.getElem?_eq_none h'] at this; cases this
        have hntt : ∀ d ∈ D, d.t ≠ t := fun d hd e => by
          have : (DOK.pairs D).any (fun d => d.2 == t) = true := by
            simp only [DOK.pairs, List.any_eq_true, List.mem_map]
            exact ⟨(d.i, d.t), ⟨d, hd, rfl⟩, by simp [e]⟩
          rw [this] at h2; cases h2
        have hD' : DOK P ops st.n (del st.fr t) (st.M ++ [none]) (D ++ [⟨i, t, st.M.length, ti⟩]) := by
          refine ⟨fun d hd => ?_, ?_, ?_, fun d hd => ?_, fun d hd => ?_, ?_, fun d hd => ?_⟩
          · rcases List.mem_append.1 hd with hd | hd
            · exact hD.o d hd
            · simp only [List.mem_singleton] at hd; subst hd; exact ⟨T, ty, p, af, ho, hti⟩
          · rw [List.map_append, List.nodup_append]
            exact ⟨hD.ni, by simp, fun a ha b hb => by
              obtain ⟨d, hd, rfl⟩ := List.mem_map.1 ha
              simp only [List.map_cons, List.map_nil, List.mem_singleton] at hb
              subst hb; exact hni d hd⟩
          · rw [List.map_append, List.nodup_append]
            exact ⟨hD.nk, by simp, fun a ha b hb => by
              obtain ⟨d, hd, rfl⟩ := List.mem_map.1 ha
              simp only [List.map_cons, List.map_nil, List.mem_singleton] at hb
              subst hb; have := hkl d hd; omega⟩
          · rcases List.mem_append.1 hd with hd | hd
            · rw [List.getElem?_append_left (hkl d hd)]; exact hD.M d hd
            · simp only [List.mem_singleton] at hd; subst hd; simp
          · rcases List.mem_append.1 hd with hd | hd
            · exact hD.t d hd
            · simp only [List.mem_singleton] at hd; subst hd; exact htn
          · rw [List.map_append, List.nodup_append]
            exact ⟨hD.nt, by simp, fun a ha b hb => by
              obtain ⟨d, hd, rfl⟩ := List.mem_map.1 ha
              simp only [List.map_cons, List.map_nil, List.mem_singleton] at hb
              subst hb; exact hntt d hd⟩
          · rcases List.mem_append.1 hd with hd | hd
            · exact get_del_none (.inl (hD.fr d hd))
            · simp only [List.mem_singleton] at hd; subst hd; exact get_del_none (.inr rfl)
        obtain ⟨y, hy⟩ : ∃ y : Nat → Bool, y = fun j => x j && !(j == i) := ⟨_, rfl⟩
        have hyD : ∀ d ∈ D, y d.i = x d.i := fun d hd => by simp [hy, hni d hd]
        have hyi : y i = false := by simp [hy]
        have hb : bindB y (D ++ [⟨i, t, st.M.length, ti⟩]) (st.M ++ [none]) = bindB x D st.M ++ [none] := by
          rw [bindB_snoc hyi, bindB_app hkl, bindB_congr hyD]
        have hZ' : ZS C st.n (del st.fr t) (st.M ++ [none]) (D ++ [⟨i, t, st.M.length, ti⟩]) y β H a w := by
          refine ⟨hZ.F.sub fun t' z hg => (get_del_ne hg).2, by rw [hb]; exact hZ.W.grow, fun d hd hx => ?_, fun d hd hx => ?_⟩
          · rcases List.mem_append.1 hd with hd | hd
            · exact hZ.S d hd (by rw [← hyD d hd]; exact hx)
            · simp only [List.mem_singleton] at hd; subst hd; rw [hyi] at hx; cases hx
          · rcases List.mem_append.1 hd with hd | hd
            · exact hZ.N d hd (by rw [← hyD d hd]; exact hx)
            · simp only [List.mem_singleton] at hd; subst hd
              exact hZ.W.fresh _ (by rw [bindB_len]; exact Nat.le_refl _)
        have hcnt : cnt y (D ++ [⟨i, t, st.M.length, ti⟩]) = m + 1 := by
          simp only [cnt, List.filter_append, List.length_append]
          have e1 : (D.filter fun d => !y d.i) = D.filter fun d => !x d.i := List.filter_congr fun d hd => by rw [hyD d hd]
          rw [e1]
          simp only [cnt] at hm
          simp [hm, hyi]
        have hr := vcZ_ok np r _ _ hQ hJ h hns L (by simpa [DOK.pairs] using h3) hD' (m + 1) y β H a w hcnt hZ'
        have hset : setB y ((D ++ [(⟨i, t, st.M.length, ti⟩ : Late)]).map (·.i)) L = setB x (D.map (·.i)) L := by
          rw [List.map_append, List.map_cons, List.map_nil, setB_snoc hyi]
          exact setB_congr (fun j hj => by obtain ⟨d, hd, rfl⟩ := List.mem_map.1 hj; exact hyD d hd) L
        rw [hset] at hr
        have e : (Pz.d i r).len + m = r.len + (m + 1) := by simp only [Pz.len]; omega
        rw [e]
        exact hr
      · exact h.elim
    · exact h.elim
  | .b r, D, st, Q, QJ, hQ, hJ, h => fun hns L hL hD => by
    simp only [vcZ] at h
    simp only [planZ, Bool.and_eq_true] at hL
    refine late_ind hD fun x β H a w hZ hcome => ?_
    obtain ⟨q, hq1, hq2⟩ := allE_spec x _ _ _ hL.1
    have hmap : (DOK.pairs D).map (·.1) = D.map (·.i) := by simp [DOK.pairs]
    rw [hmap] at hq1 hq2 hL
    by_cases hall : ∀ d ∈ D, x d.i = true
    · rw [cnt_zero hall]
      have hset : setB x (D.map (·.i)) L = setB (fun _ => true) (D.map (·.i)) L := setB_congr (fun j hj => by obtain ⟨d, hd, rfl⟩ := List.mem_map.1 hj; exact hall d hd) L
      rw [hset]
      have hW := hZ.W
      rw [bindB_all hall] at hW
      exact vcPl_ok np r _ hQ hJ h hns _ hL.2 β H a w (slots_fok hZ.F D fun d hd => hZ.S d hd (hall d hd)) hW
    · obtain ⟨d0, hd0, hx0⟩ : ∃ d ∈ D, x d.i = false := by
        refine Classical.byContradiction fun hno => hall fun d hd => ?_
        cases hx : x d.i with
        | true => rfl
        | false => exact absurd ⟨d, hd, hx⟩ hno
      have hne : q.isEmpty = false := by
        cases q with
        | nil => have := (hq2 d0.i).2 (.inr ⟨List.mem_map.2 ⟨d0, hd0, rfl⟩, hx0⟩); exact absurd this (by simp)
        | cons _ _ => rfl
      rw [hne] at hq1
      simp only [Bool.false_or, Bool.and_eq_true, Bool.not_eq_true', List.all_eq_true, List.contains_iff_mem] at hq1
      have hc := cnt_plus hd0 hD.ni hx0
      have e : (Pz.b r).len + cnt x D = ((Pz.b r).len + cnt x D - 1) + 1 := by omega
      rw [e]
      refine ⟨fun h0 => (by rw [h0] at hq1; simp at hq1), fun j hj => ?_⟩
      rcases (hq2 j).1 (hq1.2 j hj) with h' | ⟨h', hx'⟩
      · cases h'
      · obtain ⟨d, hd, rfl⟩ := List.mem_map.1 h'
        exact hcome d hd hx'
  | .p i r, D, st, Q, QJ, hQ, hJ, h => fun hns L hL hD => by
    simp only [vcZ] at h
    split at h
    · exact fun _ _ _ _ _ _ _ _ => h.elim
    · rename_i o ho
      simp only [planZ, Bool.and_eq_true, Bool.not_eq_true'] at hL
      obtain ⟨hdst, -, hall, hr⟩ := hL
      refine late_ind hD fun x β H a w hZ hcome => ?_
      obtain ⟨q, hq1, hq2⟩ := allE_spec x _ _ _ hall
      have hmap : (DOK.pairs D).map (·.1) = D.map (·.i) := by simp [DOK.pairs]
      rw [hmap] at hq1 hq2
      simp only [Bool.and_eq_true, List.all_eq_true, List.contains_iff_mem, Bool.or_eq_true, beq_iff_eq] at hq1
      have e : (Pz.p i r).len + cnt x D = ((Pz.p i r).len + cnt x D - 1) + 1 := by simp only [Pz.len]; omega
      rw [e]
      refine ⟨fun h0 => (by rw [h0] at hq1; simp at hq1), fun j hj => ?_⟩
      have done : j ∈ q → wpOp P ops (QQ C R) j (fun a' w' => GG H (Wb β w.heap.size ((Pz.p i r).Y j)) w w' ∧ wpG P ops (QQ C R) (fun j w1 w2 => GG H (Wb β w.heap.size ((Pz.p i r).Y j)) w1 w2) ((Pz.p i r).len + cnt x D - 1) ((setB x (D.map (·.i)) L).setIfInBounds j true) a' w') a w := fun hjq => by
        rcases (hq2 j).1 hjq with h' | ⟨h', hx'⟩
        · cases h'
        · obtain ⟨d, hd, rfl⟩ := List.mem_map.1 h'
          exact hcome d hd hx'
      rcases hq1.2 j hj with rfl | hjq
      · have hlen : (Pz.p j r).len + cnt x D - 1 = r.len + cnt x D := by simp only [Pz.len]; omega
        rw [hlen]
        unfold wpOp
        simp only [ho]
        rcases gd_okZ h hZ.F with ⟨hw, fr, hfr, hF', hyes⟩ | ⟨hw, fr, hfr, hF', hno⟩
        · rw [if_pos hw]
          left
          unfold pureStep at hyes
          split at hyes
          · rename_i f args ts hop
            split at hyes
            · rename_i xs hxs
              obtain ⟨hf, hdk, hks, args', Φ, hsub, hpure, hk⟩ := hyes
              have hrun : (execOp a.eval o).run P w = .ok (.enter f (args.map a.eval)) w := by
                obtain ⟨dst, op, type, pos, after, guard⟩ := o
                simp only at hop
                subst hop
                simp only [execOp, resolve, Act.eval, Deferred.ofValue, Sem.run_bind, Sem.run_pure, Result.andThen_ok, invoke]
                simpa using hf (args.map a.eval) w
              simp only [Oper.wp, hrun, Oper.upon]
              have hvals := evs_den hF' _ _ hxs
              have hWM := hZ.wok hD
              have hvals' := SubL_denT hWM hsub ⟨fun k e _ hk => by rw [hks] at hk; cases hk⟩ hvals
              have hcall := hpure H w _ hWM.invH hvals'
              rw [show (args.toList.map a.eval).toArray = args.map a.eval from by apply Array.ext'; simp] at hcall
              refine Calls.mono hcall ?_
              rintro e' w' ⟨H', v, z, rfl, g1, g2, g3, g4, g5, g6⟩
              have hF2 : FOK β H' st.n (putO o.dst (some z) fr) (a.put o.dst v) := (hF'.mono (fun _ _ h => h) g3).putO hdk (g1.up (fun k d hd => by simp [noB] at hd) (fun _ _ h => h))
              have hslot := put_slot ho hdst
              have hZ2 : ZS C st.n (putO o.dst (some z) fr) st.M D x β H' (a.put o.dst v) w' := by
                refine ⟨hF2, hZ.W.after g6 g3 g4 g5, fun d hd hx => ?_, hZ.N⟩
                obtain ⟨v', hv', hden⟩ := hZ.S d hd hx
                refine ⟨v', ?_, hden.up (fun _ _ h => h) g3⟩
                cases hd0 : o.dst with
                | none => exact hv'
                | some s => simp only [Act.put]; rw [Array.getElem?_setIfInBounds_ne (hslot d hd s hd0)]; exact hv'
              have hih := vcZ_ok np r D ⟨st.n, putO o.dst (some z) fr, st.M⟩ hJ hJ (hk z g2) hns _ hr (hD.frame fun d hd => get_put_none (hfr _ (hD.fr d hd)) (hslot d hd)) _ x β H' _ w' rfl hZ2
              rw [setB_comm] at hih
              refine ⟨⟨⟨g6.size, fun b hb _ => g6.block b hb⟩, InvC.mono (H' := H') g5.1 g3⟩, ?_⟩
              refine wpG_mono _ _ _ _ (fun j' w1 w2 _ hr' => ⟨hr'.1.mono fun b _ hb => ?_, hr'.2.mono g3⟩) hih
              obtain ⟨b1, b2⟩ := hb
              exact ⟨b1, b2.imp id (Or.imp (fun h => Nat.le_trans g6.size h) id)⟩
            · exact hyes.elim
          · exact hyes.elim
        · rw [if_neg (by simp [hw])]
          have hslot := put_slot ho hdst
          have hZ2 := hZ.put hF' hslot
          have hih := vcZ_ok np r D ⟨st.n, fr, st.M⟩ hQ hJ hno hns _ hr (hD.frame fun d hd => hfr _ (hD.fr d hd) (hslot d hd)) _ x β H _ w rfl hZ2
          rw [setB_comm] at hih
          exact ⟨⟨RS.rfl' w, hZ.W.inv⟩, hih⟩
      · exact done hjq
  | .q i ks r, D, st, Q, QJ, hQ, hJ, h => fun hns L hL hD m x β H a w hm hZ => by
    simp only [planZ, Bool.and_eq_true, Bool.not_eq_true'] at hL
    obtain ⟨hdst, -, hall, hL⟩ := hL
    obtain ⟨qq, hq, -⟩ := allE_spec x _ _ _ hall
    have hmap : (DOK.pairs D).map (·.1) = D.map (·.i) := by simp [DOK.pairs]
    rw [hmap] at hq
    have hF := hZ.F
    have hW := hZ.wok hD
    simp only [vcZ] at h
    split at h
    · exact h.elim
    · rename_i o ho
      have hslot := put_slot ho hdst
      simp only [qOK, ho, Bool.and_eq_true] at hq
      obtain ⟨h1, h2, h3, h4, h5⟩ := hq
      simp only [List.all_eq_true, Bool.and_eq_true, Bool.not_eq_true'] at h4
      let Dd : Nat → Bool := fun j => (dsc ops i).contains j
      let U : Nat → Prop := fun b => ∃ j, j < ops.size ∧ j ≠ i ∧ Dd j = false ∧ (setB x (D.map (·.i)) L).getD j true = false ∧ Wb β w.heap.size (r.Y j) b
      have hUk : (∃ t x, o.op = .load t x) → ∀ b, U b → b < w.heap.size → big ∈ ks ∨ ∃ k ∈ ks, ∃ d, β k = some (some d) ∧ d.b = b := by
        rintro ⟨t', x', hop⟩ b ⟨j, hj1, hj2, hj3, hj4, hw1, hw2⟩ hb
        obtain ⟨dst, op, type, pos, after, guard⟩ := o
        simp only at hop
        subst hop
        simp only [List.all_eq_true, List.mem_range, Bool.or_eq_true, beq_iff_eq] at h5
        have hks : ∀ k ∈ r.Y j, k ∈ ks := fun k hk => by
          rcases h5 j hj1 with h | h | h | h
          · exact absurd h hj2
          · rw [hj4] at h; cases h
          · rw [show (dsc ops i).contains j = false from hj3] at h; cases h
          · have := h k hk; simpa using this
        rcases hw2 with hw2 | hw2 | ⟨k, hk, d, hd, hdb⟩
        · exact .inl (hks _ hw2)
        · omega
        · exact .inr ⟨k, hks k hk, d, hd, hdb⟩
      have core : ∀ v, YieldsIf P ops (fun w' => RS U w w' ∧ InvC H w') o v a → (∃ fr, (∀ d ∈ D, get fr d.t = none) ∧ FOK β H st.n fr (a.put o.dst v) ∧ vcZ P C ops D r ⟨st.n, fr, st.M⟩ Q QJ) → wpG P ops (QQ C R) (fun j w1 w2 => GG H (Wb β w.heap.size ((Pz.q i ks r).Y j)) w1 w2) ((Pz.q i ks r).len + m) (setB x (D.map (·.i)) L) a w := by
        rintro v hy ⟨fr, hfr, hF', hv⟩
        have e : (Pz.q i ks r).len + m = (r.len + m) + 1 := by simp only [Pz.len]; omega
        rw [e]
        refine wpG_first (D := Dd) (S := fun w' => RS U w w' ∧ InvC H w') ho (Region.noSelect_spec hns) (fun c a' w' ⟨st', hp, _⟩ => absurd hp (np c st')) (fun j oj hj hoj => ?_) (fun w1 hs => ⟨RS.rfl' w1, hs.2⟩) _ _ a w ?_ (fun j hj => ?_) (Region.free_spec ho h2) (by simpa using h3) hy ⟨RS.rfl' w, hW.inv⟩ ?_
        · have := h4 j (by simpa [Dd] using hj)
          rw [hoj] at this
          simp only [Array.any_eq_true', Bool.and_eq_true, Bool.or_eq_true, beq_iff_eq] at this
          exact this.2
        · intro j w1 w2 hj1 hj2 hj3 hj4 hs hg
          exact ⟨hs.1.trans hg.1 fun b _ hb => ⟨j, hj1, hj2, hj3, hj4, hb⟩, hg.2⟩
        · exact (h4 j (by simpa [Dd] using hj)).1
        · have hih := vcZ_ok np r D ⟨st.n, fr, st.M⟩ hQ hJ hv hns _ hL (hD.frame hfr) m x β H _ w hm (hZ.put hF' hslot)
          rw [setB_comm] at hih
          exact hih
      rcases gd_okZ h hF with ⟨hw, fr, hfr, hF', hi, hyes⟩ | ⟨hw, fr, hfr, hF', hno'⟩
      · obtain ⟨c, y, hy, hc, hd, hnx⟩ := vcOp_quiet h1 hi hyes
        obtain ⟨v, hv1, hv2⟩ := evQ_if (st := ⟨st.n, fr, st.M⟩) hW hF' hy hc hi hUk
        exact core v (.inl ⟨hw, hv1⟩) ⟨_, fun d hd' => get_put_none (hfr _ (hD.fr d hd')) (hslot d hd'), hF'.putO hd hv2, hnx⟩
      · exact core undef (.inr ⟨hw, rfl⟩) ⟨fr, fun d hd' => hfr _ (hD.fr d hd') (hslot d hd'), hF', hno'⟩

/-- a region whose operations may come up in any order, new variables among them -/
theorem CodeJ.drawZ {id : Nat} (pl : Pz) (hm : P.follows .mixedOrders = true) (hp : (Region.noSelect ops && (planZ ops [] (Array.replicate ops.size false) pl && decide (pl.len ≤ ops.size))) = true) (np : ∀ c st, ¬ QJ (.panic c) st)
    (h : vcZ P C ops [] pl st QJ QJ) : CodeJ P C (.region id ops true) st QJ := by
  simp only [Bool.and_eq_true, decide_eq_true_eq] at hp
  rintro a w ⟨β, H, hF, hW⟩
  have hD : DOK P ops st.n st.fr st.M [] := ⟨by simp, by simp, by simp, by simp, by simp, by simp, by simp⟩
  have hj := vcZ_ok np pl [] st (fun _ _ h => h) (fun _ _ h => h) h hp.1 _ hp.2.1 hD 0 (fun _ => false) β H a _ rfl ⟨hF, hW.drew, by simp, by simp⟩
  exact wp_region_any hm (wpG_any _ _ _ _ (wpG_le hp.2.2 hj))
end

/-! how simp runs it -/
def nxZ (P : Program) (C : Ctx) (ops : Array Oper) (D : List Late) (r : Pz) (Q QJ : Post) (st : St) : Prop := vcZ P C ops D r st Q QJ
def njZ (P : Program) (C : Ctx) (ops : Array Oper) (D : List Late) (r : Pz) (QJ : Post) (st : St) : Prop := vcZ P C ops D r st QJ QJ
def KU (d : Option Tmp) (st : St) (next : St → Prop) (z : SV) : Prop := next ⟨st.n, putO d (some z) st.fr, st.M⟩
def onPure (P : Program) (f : FuncId) (xs : Option (List SV)) (d : Option Tmp) (st : St) (next : St → Prop) : Prop := match xs with
  | some xs => callOK P f ∧ dok d st.n ∧ PureJ P f xs st.M (KU d st next)
  | none => False
section
variable {P : Program} {C : Ctx} {st : St} {Q QJ : Post} {l : List Oper} {D : List Late} {d : Option Tmp} {op : Op} {t : TypeId} {p : String} {af : Array Edge} {g : Option (Nat × Bool)} {o : Oper} {r : Pz} {i : Nat} {ks : List Nat} {next : St → Prop}
@[simp] theorem nxZ_app : nxZ P C l.toArray D r Q QJ st = vcZ P C l.toArray D r st Q QJ := rfl
@[simp] theorem njZ_app : njZ P C l.toArray D r QJ st = vcZ P C l.toArray D r st QJ QJ := rfl
@[simp] theorem KU_app {z : SV} : KU d st next z = next ⟨st.n, putO d (some z) st.fr, st.M⟩ := rfl
@[simp] theorem onPure_some {f : FuncId} {xs : List SV} : onPure P f (some xs) d st next = (callOK P f ∧ dok d st.n ∧ PureJ P f xs st.M (KU d st next)) := rfl
def zQ (P : Program) (C : Ctx) (l : List Oper) (D : List Late) (ks : List Nat) (o : Oper) (r : Pz) (Q QJ : Post) (st : St) : Prop := okI ks st o.op ∧ vcOp P C none o st (nxZ P C l.toArray D r Q QJ) noJ
def zP (P : Program) (C : Ctx) (l : List Oper) (D : List Late) (o : Oper) (r : Pz) (QJ : Post) (st : St) : Prop := pureStep P o st (njZ P C l.toArray D r QJ)
@[simp] theorem zQ_app : zQ P C l D ks o r Q QJ st = (okI ks st o.op ∧ vcOp P C none o st (nxZ P C l.toArray D r Q QJ) noJ) := rfl
@[simp] theorem zP_app : zP P C l D o r QJ st = pureStep P o st (njZ P C l.toArray D r QJ) := rfl
@[simp ↓] theorem pureStep_call {f : FuncId} {os : List Operand} {ts : Array TypeId} : pureStep P ⟨d, .call ⟨.value (.func f), os.toArray, ts⟩, t, p, af, g⟩ st next = onPure P f (evs st.fr os) d st next := by
  simp only [pureStep, onPure]
  cases evs st.fr os <;> rfl
def oQ (P : Program) (C : Ctx) (l : List Oper) (D : List Late) (ks : List Nat) (o : Option Oper) (r : Pz) (st : St) (Q QJ : Post) : Prop := match o with
  | some o => gd l.toArray o st (zQ P C l D ks o r Q QJ) (nxZ P C l.toArray D r Q QJ)
  | none => False
def oP (P : Program) (C : Ctx) (l : List Oper) (D : List Late) (o : Option Oper) (r : Pz) (st : St) (Q QJ : Post) : Prop := match o with
  | some o => gd l.toArray o st (zP P C l D o r QJ) (nxZ P C l.toArray D r Q QJ)
  | none => False
def oT (P : Program) (C : Ctx) (l : List Oper) (D : List Late) (i t : Nat) (ti : Option TI) (r : Pz) (st : St) (Q QJ : Post) : Prop := match ti with
  | some ti => t < st.n ∧ vcZ P C l.toArray (D ++ [⟨i, t, st.M.length, ti⟩]) r ⟨st.n, del st.fr t, st.M ++ [none]⟩ Q QJ
  | none => False
def oD (P : Program) (C : Ctx) (l : List Oper) (D : List Late) (i : Nat) (o : Option Oper) (r : Pz) (st : St) (Q QJ : Post) : Prop := match o with
  | some ⟨some t, .alloc T, _, _, _, none⟩ => oT P C l D i t (tyOf P T) r st Q QJ
  | _ => False
@[simp] theorem oQ_some : oQ P C l D ks (some o) r st Q QJ = gd l.toArray o st (zQ P C l D ks o r Q QJ) (nxZ P C l.toArray D r Q QJ) := rfl
@[simp] theorem oP_some : oP P C l D (some o) r st Q QJ = gd l.toArray o st (zP P C l D o r QJ) (nxZ P C l.toArray D r Q QJ) := rfl
@[simp] theorem oT_some {t : Nat} {ti : TI} : oT P C l D i t (some ti) r st Q QJ = (t < st.n ∧ vcZ P C l.toArray (D ++ [⟨i, t, st.M.length, ti⟩]) r ⟨st.n, del st.fr t, st.M ++ [none]⟩ Q QJ) := rfl
@[simp] theorem oD_some {t' : Nat} {T : TypeId} : oD P C l D i (some ⟨some t', .alloc T, t, p, af, none⟩) r st Q QJ = oT P C l D i t' (tyOf P T) r st Q QJ := rfl
@[simp] theorem zqs_nil : Pz.qs [] r = r := rfl
@[simp] theorem zqs_cons {is : List Nat} : Pz.qs (i :: is) r = .q i [] (Pz.qs is r) := rfl
@[simp ↓] theorem vcZ_b {r : Pl} : vcZ P C l.toArray D (.b r) st Q QJ = vcPl P C l.toArray r ⟨st.n, slotsD D st.fr, bindD D st.M⟩ Q QJ := rfl
@[simp ↓] theorem vcZ_q : vcZ P C l.toArray D (.q i ks r) st Q QJ = oQ P C l D ks (oget l i) r st Q QJ := by
  simp only [vcZ, oget_arr]; cases oget l i <;> rfl
@[simp ↓] theorem vcZ_p : vcZ P C l.toArray D (.p i r) st Q QJ = oP P C l D (oget l i) r st Q QJ := by
  simp only [vcZ, oget_arr]; cases oget l i <;> rfl
@[simp ↓] theorem vcZ_d : vcZ P C l.toArray D (.d i r) st Q QJ = oD P C l D i (oget l i) r st Q QJ := by
  simp only [vcZ, oget_arr, oD, oT]
@[simp] theorem slotsD_nil {fr : List (Nat × SV)} : slotsD [] fr = fr := rfl
@[simp] theorem slotsD_cons {d : Late} {fr : List (Nat × SV)} : slotsD (d :: D) fr = (d.t, .ptr d.k 0 0) :: slotsD D fr := rfl
@[simp] theorem bindD_nil {M : Tab} : bindD [] M = M := rfl
@[simp] theorem bindD_cons {d : Late} {M : Tab} : bindD (d :: D) M = tset (bindD D M) d.k (zent d) := by rw [tset_eq]; rfl
@[simp] theorem zent_eq {i t k : Nat} {ti : TI} : zent ⟨i, t, k, ti⟩ = some ⟨ti.size, [ti.zsv], false⟩ := rfl
end
mutual
theorem Sub_self (M : Tab) : ∀ x : SV, x.pure = true → Sub M x x
  | .val v, _ => by simp only [Sub]
  | .ptr _ _ _, h => by simp [SV.pure] at h
  | .view _ _ _, h => by simp [SV.pure] at h
  | .mp _, h => by simp [SV.pure] at h
  | .ro _, _ => rfl
  | .rop _ _, _ => rfl
  | .sen _ _, _ => rfl
  | .any, _ => rfl
  | .fnv _ l r, h => by
    simp only [SV.pure, Bool.and_eq_true] at h
    simp only [Sub]
    exact ⟨trivial, SubL_self M l h.1, SubL_self M r h.2⟩
  | .agg l, h => by simp only [Sub]; exact SubL_self M l (by simpa [SV.pure] using h)
  | .tup l, h => by simp only [Sub]; exact SubL_self M l (by simpa [SV.pure] using h)
  | .ifc _ x, h => by simp only [Sub]; exact ⟨trivial, Sub_self M x (by simpa [SV.pure] using h)⟩
theorem SubL_self (M : Tab) : ∀ l : List SV, SV.pureL l = true → SubL M l l
  | [], _ => by simp only [SubL]
  | x :: l, h => by
    simp only [SV.pureL, Bool.and_eq_true] at h
    simp only [SubL]
    exact ⟨Sub_self M x h.1, SubL_self M l h.2⟩
end
mutual
theorem ks_pure : ∀ x : SV, x.pure = true → x.ks = []
  | .val _, _ => rfl
  | .ptr _ _ _, h => by simp [SV.pure] at h
  | .view _ _ _, h => by simp [SV.pure] at h
  | .mp _, h => by simp [SV.pure] at h
  | .ro _, _ => rfl
  | .rop _ _, _ => rfl
  | .sen _ _, _ => rfl
  | .any, _ => rfl
  | .fnv _ l r, h => by
    simp only [SV.pure, Bool.and_eq_true] at h
    simp [SV.ks, ksL_pure l h.1, ksL_pure r h.2]
  | .agg l, h => by simp only [SV.ks]; exact ksL_pure l (by simpa [SV.pure] using h)
  | .tup l, h => by simp only [SV.ks]; exact ksL_pure l (by simpa [SV.pure] using h)
  | .ifc _ x, h => by simp only [SV.ks]; exact ks_pure x (by simpa [SV.pure] using h)
theorem ksL_pure : ∀ l : List SV, SV.pureL l = true → SV.ksL l = []
  | [], _ => rfl
  | x :: l, h => by
    simp only [SV.pureL, Bool.and_eq_true] at h
    simp [SV.ksL, ks_pure x h.1, ksL_pure l h.2]
end
/-- calls with just the values of the contract, which name no entry -/
theorem callS {P : Program} {C : Ctx} {f : FuncId} {args : List SV} {y : SV} {M : Tab} {W : Option (List Nat)} {k : Tab → List Nat → SV → Prop} (h : PureF P f args y) (hp : SV.pureL args = true) (hk : k M [] y) : CallJ P C f args M W k :=
  callF h (SubL_self M args hp) (by rw [ksL_pure args hp]; exact hk)
end Go.Sv

