/- Functions, calls, loops. A text of the prover's own; it names no program. -/
import Derived.Test.YtadkomdooleipaaGreatDoorKVw
namespace Go.Sv
open Go Go.RowKit

def InvH (H : Hp) (w : World) : Prop := (∀ b cs, H b = some cs → ∃ T z, w.heap[b]? = some (.cells cs T z)) ∧ GOK H
theorem WOK.invH {C : Ctx} {β : Bnd} {H : Hp} {M : Tab} {w : World} (h : WOK C β H M w) : InvH H w := ⟨h.inv, h.glob⟩

/-- what is told of a function that only makes new memory: called with such arguments it returns such a result -/
def PureC (P : Program) (f : FuncId) (args : List SV) (Φ : SV → Prop) : Prop :=
  ∀ (H : Hp) (w : World) (vals : List Value), InvH H w → DenT noB H args vals → Calls P f vals.toArray w fun e w' =>
    ∃ H' v x, e = .returned v ∧ Den noB H' x v ∧ Φ x ∧ (∀ b cs, H b = some cs → H' b = some cs) ∧ (∀ b cs, H' b = some cs → H b = some cs ∨ w.heap.size ≤ b) ∧ InvH H' w' ∧ Below w.heap.size w w'
/-- it returns just that -/
def PureF (P : Program) (f : FuncId) (args : List SV) (y : SV) : Prop := PureC P f args (fun x => x = y)

/-! ### A symbolic value with own entries, read as one without -/
mutual
def Sub (M : Tab) : SV → SV → Prop
  | .view k i n, y => match y with
    | .ro es => match tget M k with
      | some e => SV.pureL e.es = true ∧ i + n ≤ e.es.length ∧ (e.es.drop i).take n = es
      | none => False
    | _ => False
  | .ptr k i j, y => match y with
    | .rop x j' => match tget M k with
      | some e => SV.pureL e.es = true ∧ i < e.es.length ∧ (lget e.es i).isTup = false ∧ lget e.es i = x ∧ j = j'
      | none => False
    | _ => False
  | .agg l, y => match y with
    | .agg l' => SubL M l l'
    | _ => False
  | .tup l, y => match y with
    | .tup l' => SubL M l l'
    | _ => False
  | .ifc t x, y => match y with
    | .ifc t' x' => t = t' ∧ Sub M x x'
    | _ => False
  | .val v, y => match y with
    | .ro es => v = .slice none 0 0 ∧ es = []
    | .val v' => v = v'
    | _ => False
  | .ro es, y => y = .ro es
  | .rop x j, y => y = .rop x j
  | .sen t g, y => y = .sen t g
  | .any, y => y = .any
  | .fnv f l r, y => match y with
    | .fnv f' l' r' => f = f' ∧ SubL M l l' ∧ SubL M r r'
    | _ => False
  | .mp _, _ => False
def SubL (M : Tab) : List SV → List SV → Prop
  | [], y => y = []
  | x :: l, y => match y with
    | x' :: l' => Sub M x x' ∧ SubL M l l'
    | [] => False
end

/-- these entries will not be written any more -/
def fzL : List Nat → Tab → Tab
  | [], M => M
  | k :: r, M => match tget M k with
    | some e => fzL r (tset M k (some ⟨e.sz, e.es, true⟩))
    | none => fzL r M

theorem tget_of {M : Tab} {k : Nat} {e : Ent} (h : M[k]? = some (some e)) : tget M k = some e := by
  induction M generalizing k with
  | nil => simp at h
  | cons x l ih => cases k with
    | zero => simp at h; simp [tget, h]
    | succ k => simpa [tget] using ih (by simpa using h)

theorem tget_set (M : Tab) (k j : Nat) (e : Ent) (hk : ∃ e', tget M k = some e') : tget (tset M k (some e)) j = if j = k then some e else tget M j := by
  induction M generalizing k j with
  | nil => obtain ⟨e', h⟩ := hk; simp [tget] at h
  | cons x l ih =>
    cases k with
    | zero => cases j <;> simp [tset, tget]
    | succ k => cases j with
      | zero => simp [tset, tget]
      | succ j => simpa [tset, tget] using ih k j (by simpa [tget] using hk)

section
variable {P : Program} {C : Ctx} {β : Bnd} {H : Hp} {M : Tab} {w : World}

theorem fzL_ok : ∀ (ks : List Nat) {H : Hp} {M : Tab}, WOK C β H M w → (∀ k ∈ ks, ∀ e, tget M k = some e → SV.pureL e.es = true) →
    ∃ H', (∀ b cs, H b = some cs → H' b = some cs) ∧ WOK C β H' (fzL ks M) w ∧
      (∀ k e, tget M k = some e → ∃ e', tget (fzL ks M) k = some e' ∧ e'.es = e.es ∧ e'.sz = e.sz ∧ ((e.fz = true ∨ k ∈ ks) → e'.fz = true))
  | [], H, M, h, _ => ⟨H, fun _ _ h => h, h, fun k e he => ⟨e, he, rfl, rfl, fun h => h.resolve_right (by simp)⟩⟩
  | k :: r, H, M, h, hp => by
    simp only [fzL]
    cases hk : tget M k with
    | none =>
      obtain ⟨H', h1, h2, h3⟩ := fzL_ok r h (fun j hj => hp j (by simp [hj]))
      refine ⟨H', h1, h2, fun j e he => ?_⟩
      obtain ⟨e', g1, g2, g3, g4⟩ := h3 j e he
      refine ⟨e', g1, g2, g3, fun hh => g4 ?_⟩
      rcases hh with hh | hh
      · exact .inl hh
      · rcases List.mem_cons.1 hh with rfl | hh
        · rw [hk] at he; cases he
        · exact .inr hh
    | some e =>
      obtain ⟨H1, a1, a2⟩ := h.freeze (tget_some hk) (hp k (by simp) e hk)
      rw [← tset_eq] at a2
      simp only
      have hts := fun j => tget_set M k j ⟨e.sz, e.es, true⟩ ⟨e, hk⟩
      obtain ⟨H', h1, h2, h3⟩ := fzL_ok r a2 (fun j hj e' he' => by
        rw [hts] at he'
        split at he'
        · simp only [Option.some.injEq] at he'; subst he'; exact hp k (by simp) e hk
        · exact hp j (by simp [hj]) e' he')
      refine ⟨H', fun b cs hb => h1 b cs (a1 b cs hb), h2, fun j e' he' => ?_⟩
      by_cases hj : j = k
      · subst hj
        rw [hk] at he'; simp only [Option.some.injEq] at he'; subst he'
        obtain ⟨e'', g1, g2, g3, g4⟩ := h3 j ⟨e.sz, e.es, true⟩ (by rw [hts]; simp)
        exact ⟨e'', g1, g2, g3, fun _ => g4 (.inl rfl)⟩
      · obtain ⟨e'', g1, g2, g3, g4⟩ := h3 j e' (by rw [hts, if_neg hj]; exact he')
        refine ⟨e'', g1, g2, g3, fun hh => g4 ?_⟩
        rcases hh with hh | hh
        · exact .inl hh
        · rcases List.mem_cons.1 hh with rfl | hh
          · exact absurd rfl hj
          · exact .inr hh

mutual
theorem Sub_pure : ∀ {x y : SV}, Sub M x y → ∀ k ∈ x.ks, ∀ e, tget M k = some e → SV.pureL e.es = true
  | .view k i n, y, h, k', hk, e, he => by
    simp only [SV.ks, List.mem_singleton] at hk
    subst hk
    simp only [Sub] at h
    split at h
    · rw [he] at h; exact h.1
    · exact h.elim
  | .ptr k i j, y, h, k', hk, e, he => by
    simp only [SV.ks, List.mem_singleton] at hk
    subst hk
    simp only [Sub] at h
    split at h
    · rw [he] at h; exact h.1
    · exact h.elim
  | .agg l, y, h, k', hk, e, he => by
    simp only [Sub] at h
    split at h
    · exact SubL_pure h k' (by simpa [SV.ks] using hk) e he
    · exact h.elim
  | .tup l, y, h, k', hk, e, he => by
    simp only [Sub] at h
    split at h
    · exact SubL_pure h k' (by simpa [SV.ks] using hk) e he
    · exact h.elim
  | .ifc t x, y, h, k', hk, e, he => by
    simp only [Sub] at h
    split at h
    · exact Sub_pure h.2 k' (by simpa [SV.ks] using hk) e he
    · exact h.elim
  | .val v, y, h, k', hk, e, he => by simp [SV.ks] at hk
  | .ro es, y, h, k', hk, e, he => by simp [SV.ks] at hk
  | .rop x j, y, h, k', hk, e, he => by simp [SV.ks] at hk
  | .sen t g, y, h, k', hk, e, he => by simp [SV.ks] at hk
  | .any, y, h, k', hk, e, he => by simp [SV.ks] at hk
  | .mp _, y, h, k', hk, e, he => by simp only [Sub] at h
  | .fnv f l r, y, h, k', hk, e, he => by
    simp only [Sub] at h
    split at h
    · simp only [SV.ks, List.mem_append] at hk
      rcases hk with hk | hk
      · exact SubL_pure h.2.1 k' hk e he
      · exact SubL_pure h.2.2 k' hk e he
    · exact h.elim
theorem SubL_pure : ∀ {l l' : List SV}, SubL M l l' → ∀ k ∈ SV.ksL l, ∀ e, tget M k = some e → SV.pureL e.es = true
  | [], l', h, k', hk, e, he => by simp [SV.ksL] at hk
  | x :: l, l', h, k', hk, e, he => by
    simp only [SubL] at h
    split at h
    · simp only [SV.ksL, List.mem_append] at hk
      rcases hk with hk | hk
      · exact Sub_pure h.1 k' hk e he
      · exact SubL_pure h.2 k' hk e he
    · exact h.elim
end

/-- entries that nobody writes any more -/
structure Fz (M M1 : Tab) (ks : List Nat) : Prop where
  h : ∀ k e, tget M k = some e → k ∈ ks → ∃ e', tget M1 k = some e' ∧ e'.es = e.es ∧ e'.fz = true

theorem pureL_den {s : Nat} {l : List SV} {vs : List Value} (h : DenE β H s l vs) (hp : SV.pureL l = true) : DenE noB H s l vs := h.any hp (fun _ _ h => h)

mutual
theorem Sub_den {M1 : Tab} (hW : WOK C β H M1 w) : ∀ {x y : SV} {v : Value}, Sub M x y → Fz M M1 x.ks → Den β H x v → Den noB H y v
  | .view k i n, y, v, h, hf, hd => by
    simp only [Sub] at h
    split at h
    · split at h
      · rename_i es e he
        obtain ⟨h1, h2, h3⟩ := h
        obtain ⟨e', g1, g2, g3⟩ := hf.h k e he (by simp [SV.ks])
        have hlen : ((e.es.drop i).take n).length = n := by simp; omega
        simp only [Den] at hd ⊢
        rcases hd with ⟨a1, rfl, rfl, rfl⟩ | ⟨d, c, o, a1, a2, a3, a4, rfl⟩
        · left; exact ⟨by rw [← h3]; simp, _, _, rfl⟩
        · rcases hW.ents k e' (tget_some g1) with ⟨b1, _⟩ | ⟨d', cs, T, vs, b1, b2, b3, b4, b5, b6, b7, b8⟩ | ⟨d', ms, b1, b2, b3, b4⟩
          rotate_left 2
          · rw [a1] at b1; simp only [Option.some.injEq] at b1; subst b1
            rw [b2.2.1, b2.2.2] at a3
            have hn0 : n = 0 := by omega
            subst hn0
            left; exact ⟨by rw [← h3]; simp, _, _, rfl⟩
          · rw [a1] at b1; simp at b1
          · rw [a1] at b1; simp only [Option.some.injEq] at b1; subst b1
            obtain ⟨c1, c2⟩ := b8 g3
            have b5' := pureL_den b5 c2
            rw [g2] at b5'
            have hl := b5'.length
            right
            rcases Nat.eq_zero_or_pos n with rfl | hn
            · exact ⟨d.b, o, c, e'.sz, cs, [], by rw [← h3]; simp, by rw [← h3]; simp, c1, by rw [← h3]; simp [DenE], by simp⟩
            · have ho := a4 (by omega)
              refine ⟨d.b, o, c, e'.sz, cs, (vs.drop (i * e'.sz)).take (n * e'.sz), by rw [← h3, hlen], by rw [← h3, hlen]; exact a2, c1, by rw [← h3]; exact (b5'.drop i).take n, fun q hq => ?_⟩
              simp only [List.length_take, List.length_drop] at hq
              rw [List.getElem?_take_of_lt (by omega), List.getElem?_drop, ho, b2]
              exact b7 _ (by omega)
      · exact h.elim
    · exact h.elim
  | .ptr k i j, y, v, h, hf, hd => by
    simp only [Sub] at h
    split at h
    · split at h
      · rename_i x j' e he
        obtain ⟨h1, h2, h2', h3, rfl⟩ := h
        obtain ⟨e', g1, g2, g3⟩ := hf.h k e he (by simp [SV.ks])
        simp only [Den] at hd ⊢
        obtain ⟨d, a1, rfl⟩ := hd
        rcases hW.ents k e' (tget_some g1) with ⟨b1, _⟩ | ⟨d', cs, T, vs, b1, b2, b3, b4, b5, b6, b7, b8⟩ | ⟨d', ms, b1, b2, b3, b4⟩
        rotate_left 2
        · rw [g2] at b4
          obtain ⟨l, hl⟩ := b4.tups _ h2
          rw [hl] at h2'; simp [SV.isTup] at h2'
        · rw [a1] at b1; simp at b1
        · rw [a1] at b1; simp only [Option.some.injEq] at b1; subst b1
          obtain ⟨c1, c2⟩ := b8 g3
          have b5' := pureL_den b5 c2
          rw [g2] at b5'
          have hl := b5'.length
          obtain ⟨u, u1, u2, u3⟩ := b5'.get h2
          refine ⟨d.b, i * e'.sz, cs, u, by rw [b2], c1, by rw [← h3]; exact u1, fun q hq => ?_⟩
          rw [u2] at hq
          have := Nat.mul_le_mul_right e'.sz (show i + 1 ≤ e.es.length from h2)
          rw [Nat.add_mul, Nat.one_mul] at this
          rw [b7 _ (by omega)]
          exact u3 q hq
      · exact h.elim
    · exact h.elim
  | .agg l, y, v, h, hf, hd => by
    simp only [Sub] at h
    split at h
    · simp only [Den] at hd ⊢
      obtain ⟨vs, rfl, hvs⟩ := hd
      exact ⟨vs, rfl, SubL_denL hW h ⟨fun k e he hk => hf.h k e he (by simpa [SV.ks] using hk)⟩ hvs⟩
    · exact h.elim
  | .tup l, y, v, h, hf, hd => by
    simp only [Sub] at h
    split at h
    · simp only [Den] at hd ⊢
      obtain ⟨vs, rfl, hvs⟩ := hd
      exact ⟨vs, rfl, SubL_denT hW h ⟨fun k e he hk => hf.h k e he (by simpa [SV.ks] using hk)⟩ hvs⟩
    · exact h.elim
  | .ifc t x, y, v, h, hf, hd => by
    simp only [Sub] at h
    split at h
    · obtain ⟨rfl, h⟩ := h
      simp only [Den] at hd ⊢
      obtain ⟨u, rfl, hu⟩ := hd
      exact ⟨u, rfl, Sub_den hW h ⟨fun k e he hk => hf.h k e he (by simpa [SV.ks] using hk)⟩ hu⟩
    · exact h.elim
  | .val u, y, v, h, hf, hd => by
    simp only [Sub] at h
    split at h
    · obtain ⟨rfl, rfl⟩ := h
      simp only [Den] at hd ⊢
      left; exact ⟨trivial, _, _, hd.1⟩
    · subst h; simpa only [Den] using hd
    · exact h.elim
  | .ro es, y, v, h, hf, hd => by simp only [Sub] at h; subst h; exact Den.any hd rfl (fun _ _ h => h)
  | .rop x j, y, v, h, hf, hd => by simp only [Sub] at h; subst h; exact Den.any hd rfl (fun _ _ h => h)
  | .sen t g, y, v, h, hf, hd => by simp only [Sub] at h; subst h; exact Den.any hd rfl (fun _ _ h => h)
  | .any, y, v, h, hf, hd => by simp only [Sub] at h; subst h; exact Den.any hd rfl (fun _ _ h => h)
  | .mp _, y, v, h, hf, hd => by simp only [Sub] at h
  | .fnv f l r, y, v, h, hf, hd => by
    simp only [Sub] at h
    split at h
    · obtain ⟨rfl, h1, h2⟩ := h
      simp only [Den] at hd ⊢
      obtain ⟨vs, ws, rfl, hv, hw⟩ := hd
      exact ⟨vs, ws, rfl, SubL_denT hW h1 ⟨fun k e he hk => hf.h k e he (by simp [SV.ks, hk])⟩ hv, SubL_denT hW h2 ⟨fun k e he hk => hf.h k e he (by simp [SV.ks, hk])⟩ hw⟩
    · exact h.elim
theorem SubL_denL {M1 : Tab} (hW : WOK C β H M1 w) : ∀ {l l' : List SV} {vs : List Value}, SubL M l l' → Fz M M1 (SV.ksL l) → DenL β H l vs → DenL noB H l' vs
  | [], l', vs, h, hf, hd => by simp only [SubL] at h; subst h; simpa [DenL] using hd
  | x :: l, l', vs, h, hf, hd => by
    simp only [SubL] at h
    split at h
    · simp only [DenL] at hd ⊢
      obtain ⟨v, r, rfl, h2, h3, h4⟩ := hd
      have h3' := Sub_den hW h.1 ⟨fun k e he hk => hf.h k e he (by simp [SV.ksL, hk])⟩ h3
      refine ⟨v, r, rfl, ?_, h3', SubL_denL hW h.2 ⟨fun k e he hk => hf.h k e he (by simp [SV.ksL, hk])⟩ h4⟩
      rename_i x' l''
      have h1 := h.1
      cases x <;> simp only [Sub, SV.one] at h1 h2
      case val u => split at h1 <;> first | rfl | (subst h1; exact h2) | exact h1.elim
      case ro => subst h1; rfl
      case rop => subst h1; rfl
      case sen => subst h1; rfl
      case any => subst h1; rfl
      case fnv => split at h1 <;> first | rfl | exact h1.elim
      case ptr => split at h1 <;> first | rfl | exact h1.elim
      case view => split at h1 <;> first | rfl | exact h1.elim
      case ifc => split at h1 <;> first | rfl | exact h1.elim
      all_goals cases h2
    · exact h.elim
theorem SubL_denT {M1 : Tab} (hW : WOK C β H M1 w) : ∀ {l l' : List SV} {vs : List Value}, SubL M l l' → Fz M M1 (SV.ksL l) → DenT β H l vs → DenT noB H l' vs
  | [], l', vs, h, hf, hd => by simp only [SubL] at h; subst h; simpa [DenT] using hd
  | x :: l, l', vs, h, hf, hd => by
    simp only [SubL] at h
    split at h
    · simp only [DenT] at hd ⊢
      obtain ⟨v, r, rfl, h3, h4⟩ := hd
      exact ⟨v, r, rfl, Sub_den hW h.1 ⟨fun k e he hk => hf.h k e he (by simp [SV.ksL, hk])⟩ h3, SubL_denT hW h.2 ⟨fun k e he hk => hf.h k e he (by simp [SV.ksL, hk])⟩ h4⟩
    · exact h.elim
end

/-- a call that only makes new memory -/
theorem WOK.after {H' : Hp} {w' : World} (h : WOK C β H M w) (hb : Below w.heap.size w w') (hH : ∀ b cs, H b = some cs → H' b = some cs)
    (hn : ∀ b cs, H' b = some cs → H b = some cs ∨ w.heap.size ≤ b) (hi : InvH H' w') : WOK C β H' M w' where
  os := hb.os.trans h.os
  tape := hb.tape.trans h.tape
  output := hb.output.trans h.output
  size := Nat.le_trans h.size hb.size
  frame b hb' hx := by rw [hb.block b (Nat.lt_of_lt_of_le hb' h.size)]; exact h.frame b hb' hx
  ext b cs hb' := hH _ _ (h.ext b cs hb')
  new b cs hb' := by
    rcases hn b cs hb' with h' | h'
    · exact h.new b cs h'
    · exact .inr (.inl (Nat.le_trans h.size h'))
  inv := hi.1
  ents k e hk := (h.ents k e hk).up (fun _ _ h => h) hH (fun d hd => hb.block _ (h.lt hk hd))
  own k e d hk hd := by
    refine ⟨fun hf => ?_, (h.own k e d hk hd).2⟩
    cases hH' : H' d.b with
    | none => rfl
    | some cs =>
      rcases hn _ _ hH' with h' | h'
      · rw [(h.own k e d hk hd).1 hf] at h'; cases h'
      · have := h.lt hk hd; omega
  inj := h.inj
  fresh := h.fresh
  keep := h.keep
  glob := hi.2

theorem callP {f : FuncId} {args args' : List SV} {Φ : SV → Prop} {W : Option (List Nat)} {K : Tab → List Nat → SV → Prop} (h : PureC P f args' Φ) (hs : SubL M args args') (hk : ∀ x, Φ x → K (fzL (SV.ksL args) M) [] x) : CallJ P C f args M W K := by
  intro β H w vals hd hW
  obtain ⟨H1, h1, h2, h3⟩ := fzL_ok (SV.ksL args) hW (SubL_pure hs)
  have hd' := SubL_denT h2 hs ⟨fun k e he hk => by
    obtain ⟨e', g1, g2, -, g4⟩ := h3 k e he
    exact ⟨e', g1, g2, g4 (.inr hk)⟩⟩ (DenT.mono h1 _ _ (fun _ _ _ h => h) hd)
  refine Calls.mono (h H1 w vals h2.invH hd') ?_
  rintro e w' ⟨H', v, x, rfl, g1, g2, g3, g4, g5, g6⟩
  exact ⟨β, H', _, v, x, [], rfl, Den.up g1 (fun k d hd => by simp [noB] at hd) (fun _ _ h => h), h2.after g6 g3 g4 g5, fun _ _ _ h => h, fun b cs hb => g3 b cs (h1 b cs hb), hk x g2, g6.size, fun ks _ => ⟨rfl, fun b hb _ => g6.block b hb⟩⟩

mutual
/-- it names no memory but that of listed errors -/
def SV.flat : SV → Bool
  | .val _ => true
  | .sen t g => sens.contains g && t == sent
  | .agg l => SV.flatL l
  | .tup l => SV.flatL l
  | .ifc _ x => x.flat
  | .any => true
  | _ => false
def SV.flatL : List SV → Bool
  | [] => true
  | x :: l => x.flat && SV.flatL l
end
mutual
theorem flat_den {β : Bnd} {H H' : Hp} (hg : GOK H) (hH : ∀ b cs, H b = some cs → H' b = some cs) : ∀ {x : SV} {v : Value}, x.flat = true → Den noB H' x v → Den β H x v
  | .val u, v, _, h => by simpa only [Den] using h
  | .any, v, _, h => by simpa only [Den] using h
  | .sen t g, v, hf, h => by
    simp only [SV.flat, Bool.and_eq_true, beq_iff_eq] at hf
    obtain ⟨h1, rfl⟩ := hf
    simp only [Den] at h ⊢
    obtain ⟨b, h2, rfl⟩ := h
    obtain ⟨u, h3, h4⟩ := hg.at_ g (.sen sent g) (by unfold gl; rw [if_pos h1])
    simp only [Den] at h3
    obtain ⟨b', h5, h6⟩ := h3
    have := hH _ _ h5
    rw [h2] at this
    simp only [Option.some.injEq, Array.mk.injEq, List.cons.injEq, Value.iface.injEq, Value.pointer.injEq, and_true, true_and] at this
    subst this
    exact ⟨b, h5, rfl⟩
  | .agg l, v, hf, h => by
    simp only [Den] at h ⊢
    obtain ⟨vs, rfl, h⟩ := h
    exact ⟨vs, rfl, flatL_denL hg hH (by simpa [SV.flat] using hf) h⟩
  | .tup l, v, hf, h => by
    simp only [Den] at h ⊢
    obtain ⟨vs, rfl, h⟩ := h
    exact ⟨vs, rfl, flatL_denT hg hH (by simpa [SV.flat] using hf) h⟩
  | .ifc t x, v, hf, h => by
    simp only [Den] at h ⊢
    obtain ⟨u, rfl, h⟩ := h
    exact ⟨u, rfl, flat_den hg hH (by simpa [SV.flat] using hf) h⟩
  | .ro _, v, hf, h => by simp [SV.flat] at hf
  | .rop _ _, v, hf, h => by simp [SV.flat] at hf
  | .ptr _ _ _, v, hf, h => by simp [SV.flat] at hf
  | .view _ _ _, v, hf, h => by simp [SV.flat] at hf
  | .fnv _ _ _, v, hf, h => by simp [SV.flat] at hf
  | .mp _, v, hf, h => by simp [SV.flat] at hf
theorem flatL_denL {β : Bnd} {H H' : Hp} (hg : GOK H) (hH : ∀ b cs, H b = some cs → H' b = some cs) : ∀ {l : List SV} {vs : List Value}, SV.flatL l = true → DenL noB H' l vs → DenL β H l vs
  | [], vs, _, h => by simpa only [DenL] using h
  | x :: l, vs, hf, h => by
    simp only [SV.flatL, Bool.and_eq_true] at hf
    simp only [DenL] at h ⊢
    obtain ⟨v, r, rfl, h1, h2, h3⟩ := h
    exact ⟨v, r, rfl, h1, flat_den hg hH hf.1 h2, flatL_denL hg hH hf.2 h3⟩
theorem flatL_denT {β : Bnd} {H H' : Hp} (hg : GOK H) (hH : ∀ b cs, H b = some cs → H' b = some cs) : ∀ {l : List SV} {vs : List Value}, SV.flatL l = true → DenT noB H' l vs → DenT β H l vs
  | [], vs, _, h => by simpa only [DenT] using h
  | x :: l, vs, hf, h => by
    simp only [SV.flatL, Bool.and_eq_true] at hf
    simp only [DenT] at h ⊢
    obtain ⟨v, r, rfl, h2, h3⟩ := h
    exact ⟨v, r, rfl, flat_den hg hH hf.1 h2, flatL_denT hg hH hf.2 h3⟩
end
/-- a call with a contract whose result names no memory: what it was handed may be written later -/
theorem callQ {f : FuncId} {args args' : List SV} {Φ : SV → Prop} {W : Option (List Nat)} {K : Tab → List Nat → SV → Prop} (h : PureC P f args' Φ) (hs : SubL M args args') (hk : ∀ x, Φ x → x.flat = true ∧ K M [] x) : CallJ P C f args M W K := by
  intro β H w vals hd hW
  obtain ⟨H1, h1, h2, h3⟩ := fzL_ok (SV.ksL args) hW (SubL_pure hs)
  have hd' := SubL_denT h2 hs ⟨fun k e he hk => by
    obtain ⟨e', g1, g2, -, g4⟩ := h3 k e he
    exact ⟨e', g1, g2, g4 (.inr hk)⟩⟩ (DenT.mono h1 _ _ (fun _ _ _ h => h) hd)
  refine Calls.mono (h H1 w vals h2.invH hd') ?_
  rintro e w' ⟨H', v, x, rfl, g1, g2, g3, g4, g5, g6⟩
  have hinv : InvH H w' := ⟨fun b cs hb => by
    obtain ⟨T, z, hh⟩ := hW.inv b cs hb
    exact ⟨T, z, by rw [g6.block b (heap_lt hh)]; exact hh⟩, hW.glob⟩
  exact ⟨β, H, _, v, x, [], rfl, flat_den hW.glob (fun b cs hb => g3 b cs (h1 b cs hb)) (hk x g2).1 g1, hW.after g6 (fun _ _ h => h) (fun _ _ h => .inl h) hinv, fun _ _ _ h => h, fun _ _ h => h, (hk x g2).2, g6.size, fun ks _ => ⟨rfl, fun b hb _ => g6.block b hb⟩⟩

/-! ### A function's own body -/
def argFr : Nat → List SV → List (Nat × SV)
  | _, [] => []
  | i, x :: l => (i, x) :: argFr (i + 1) l

/-- what is read as a result -/
def retOne (P : Program) (st : St) : ResultVar → Option (Prop × SV)
  | .tmp t => match get st.fr t with
    | some x => some (True, x)
    | none => none
  | .cell t T => match evLoad st.M (tyOf P T) (get st.fr t) with
    | .q c x => some (c, x)
    | _ => none
def retL (P : Program) (st : St) : List ResultVar → Option (Prop × List SV)
  | [] => some (True, [])
  | r :: l => match retOne P st r, retL P st l with
    | some (c, x), some (c', xs) => some (c ∧ c', x :: xs)
    | _, _ => none
def retSV (P : Program) (st : St) (rs : List ResultVar) : Option (Prop × SV) :=
  match retL P st rs with
  | some (c, [x]) => some (c, x)
  | some (c, l) => some (c, .tup l)
  | none => none
def retQ (P : Program) (rs : List ResultVar) (Φ : SV → Prop) : Post := fun e st =>
  match e with
  | .normal | .ret => match retSV P st rs with
    | some (c, x) => c ∧ ∃ y, Sub st.M x y ∧ Φ y
    | none => False
  | _ => False

theorem retOne_ok {n : Nat} {fr : List (Nat × SV)} {a : Act} (hF : FOK β H n fr a) (hW : WOK C β H M w) {r : ResultVar} {c : Prop} {x : SV} (h : retOne P ⟨n, fr, M⟩ r = some (c, x)) (hc : c) :
    ∃ v, (match r with | .tmp t => pure (a.tmps.getD t undef) | .cell t T => do loadVar T (← asAddr (a.tmps.getD t undef)) : Sem Value).run P w = .ok v w ∧ Den β H x v := by
  cases r with
  | tmp t =>
    simp only [retOne] at h
    split at h
    · rename_i y hy
      simp only [Option.some.injEq, Prod.mk.injEq] at h
      obtain ⟨-, rfl⟩ := h
      obtain ⟨v, hv, hd⟩ := hF.2.2 t _ hy
      exact ⟨v, by simp [hv], hd⟩
    · cases h
  | cell t T =>
    simp only [retOne] at h
    split at h
    · rename_i c' x' hl
      simp only [Option.some.injEq, Prod.mk.injEq] at h
      obtain ⟨rfl, rfl⟩ := h
      have hu : ∀ s, get fr t = some s → Den β H s (a.tmps.getD t undef) := fun s hs => by
        obtain ⟨v, hv, hd⟩ := hF.2.2 t s hs
        simpa [Array.getD_eq_getD_getElem?, hv] using hd
      obtain ⟨z, hz1, hz2⟩ := evLoad_ok (P := P) hW hl hc hu
      replace hz1 := hz1 w (fun _ _ _ _ => rfl)
      refine ⟨z, ?_, hz2⟩
      simp only [Instr.loadAt] at hz1
      unfold Instr.sureAddr at hz1
      unfold asAddr
      split at hz1
      · rename_i a' ha'
        simp only [ha']
        simpa using hz1
      · simp at hz1
    · cases h

theorem retL_ok {n : Nat} {fr : List (Nat × SV)} {a : Act} (hF : FOK β H n fr a) (hW : WOK C β H M w) : ∀ (rs : List ResultVar) {c : Prop} {xs : List SV}, retL P ⟨n, fr, M⟩ rs = some (c, xs) → c →
    ∃ vs, (rs.mapM (fun r => match r with | .tmp t => pure (a.tmps.getD t undef) | .cell t T => do loadVar T (← asAddr (a.tmps.getD t undef)) : ResultVar → Sem Value)).run P w = .ok vs w ∧ DenT β H xs vs
  | [], c, xs, h, _ => by
    simp only [retL, Option.some.injEq, Prod.mk.injEq] at h
    obtain ⟨-, rfl⟩ := h
    exact ⟨[], by simp, by simp [DenT]⟩
  | r :: l, c, xs, h, hc => by
    simp only [retL] at h
    split at h
    · rename_i c1 x c2 xs' h1 h2
      simp only [Option.some.injEq, Prod.mk.injEq] at h
      obtain ⟨rfl, rfl⟩ := h
      obtain ⟨v, hv1, hv2⟩ := retOne_ok (P := P) hF hW h1 hc.1
      obtain ⟨vs, hvs1, hvs2⟩ := retL_ok hF hW l h2 hc.2
      refine ⟨v :: vs, ?_, by simp only [DenT]; exact ⟨v, vs, rfl, hv2, hvs2⟩⟩
      rw [List.mapM_cons]
      simp only [Sem.run_bind, hv1, hvs1, Result.andThen_ok, Sem.run_pure]
    · cases h

/-- the arguments in the slots of the frame -/
theorem arg_fok {n : Nat} {args : List SV} {vals : List Value} (hd : DenT β H args vals) (hn : args.length ≤ n) {a : Act} (hg0 : GOK H) (ha : a.defers = []) (ht : a.tmps = vals.toArray ++ Array.replicate (n - vals.length) undef) : FOK β H n (argFr 0 args) a := by
  have hlen : vals.length = args.length := by
    have : ∀ (l : List SV) (vs : List Value), DenT β H l vs → vs.length = l.length := by
      intro l
      induction l with
      | nil => intro vs h; simp [DenT] at h; simp [h]
      | cons x l ih => intro vs h; simp only [DenT] at h; obtain ⟨v, r, rfl, _, h⟩ := h; simp [ih r h]
    exact this args vals hd
  refine ⟨⟨ha, hg0⟩, by rw [ht]; simp [hlen]; omega, fun t x hg => ?_⟩
  have key : ∀ (l : List SV) (vs : List Value) (i : Nat), DenT β H l vs → get (argFr i l) t = some x → ∃ v, i ≤ t ∧ vs[t - i]? = some v ∧ Den β H x v := by
    intro l
    induction l with
    | nil => intro vs i _ hgi; simp [argFr, get] at hgi
    | cons y l ih =>
      intro vs i hd hgi
      simp only [DenT] at hd
      obtain ⟨v, r, rfl, hd1, hd2⟩ := hd
      simp only [argFr, get] at hgi
      by_cases e : i = t
      · rw [if_pos e] at hgi; simp only [Option.some.injEq] at hgi; rw [← hgi]; exact ⟨v, by omega, by simp [e], hd1⟩
      · rw [if_neg e] at hgi
        obtain ⟨u, h1, h2, h3⟩ := ih r (i + 1) hd2 hgi
        refine ⟨u, by omega, ?_, h3⟩
        rw [show t - i = (t - (i + 1)) + 1 from by omega]; simpa using h2
  obtain ⟨v, _, hv, hdv⟩ := key args vals 0 hd hg
  refine ⟨v, ?_, hdv⟩
  have hlt : t < vals.length := by
    rcases Nat.lt_or_ge t vals.length with h' | h'
    · exact h'
    · rw [List.getElem?_eq_none (by simpa using h')] at hv; cases hv
  rw [ht, Array.getElem?_append_left (by simpa using hlt)]
  simpa using hv

/-- the results, read -/
theorem ret_ok {fn : Func} {st : St} {a : Act} (hF : FOK β H st.n st.fr a) (hW : WOK C β H st.M w) {c : Prop} {x : SV} (hr : retSV P st fn.results.toList = some (c, x)) (hc : c) : ∃ v, (results fn a.tmps).run P w = .ok v w ∧ Den β H x v := by
  unfold retSV at hr
  have hrl : ∀ c xs, retL P st fn.results.toList = some (c, xs) → c → ∃ vs, (fn.results.mapM (fun r => match r with | .tmp t => pure (a.tmps.getD t undef) | .cell t T => do loadVar T (← asAddr (a.tmps.getD t undef)) : ResultVar → Sem Value)).run P w = .ok vs.toArray w ∧ DenT β H xs vs := fun c xs h1 h2 => by
    obtain ⟨vs, g1, g2⟩ := retL_ok (P := P) hF hW _ h1 h2
    refine ⟨vs, ?_, g2⟩
    rw [Array.mapM_eq_mapM_toList]
    simp only [Sem.run_map, g1, Result.andThen_ok]
  split at hr
  · rename_i c0 x0 h0
    simp only [Option.some.injEq, Prod.mk.injEq] at hr
    obtain ⟨rfl, rfl⟩ := hr
    obtain ⟨vs, g1, g2⟩ := hrl _ _ h0 hc
    simp only [DenT] at g2
    obtain ⟨v, r, rfl, g3, rfl⟩ := g2
    refine ⟨v, ?_, g3⟩
    unfold results
    simp only [Sem.run_bind, Sem.run_pure]
    erw [g1]
    simp
  · rename_i c0 l hl h0
    simp only [Option.some.injEq, Prod.mk.injEq] at hr
    obtain ⟨rfl, rfl⟩ := hr
    obtain ⟨vs, g1, g2⟩ := hrl _ _ h0 hc
    refine ⟨.tuple vs.toArray, ?_, by simp only [Den]; exact ⟨vs, rfl, g2⟩⟩
    unfold results
    simp only [Sem.run_bind, Sem.run_pure]
    erw [g1]
    have hne : vs.length ≠ 1 := fun h1 => by
      obtain ⟨v, rfl⟩ := List.length_eq_one_iff.1 h1
      cases l with
      | nil => simp [DenT] at g2
      | cons y l => cases l with
        | nil => exact hl _ rfl
        | cons z l =>
          simp only [DenT] at g2
          obtain ⟨a, r, e1, _, b, r', e2, _⟩ := g2
          simp [e2] at e1
    simp [hne]
  · cases hr

theorem pure_enter {f : FuncId} {fn : Func} {c : Code} {args : List SV} {Φ : SV → Prop} (hf : P.funcs[f]? = some fn) (hb : fn.body = some c) (hn : args.length ≤ fn.ntmps)
    (h : ∀ C : Ctx, C.fx = [] → vc P C c ⟨fn.ntmps, argFr 0 args, []⟩ (retQ P fn.results.toList Φ) (retQ P fn.results.toList Φ)) : PureC P f args Φ := by
  intro H w vals hi hd
  refine calls_of_wp hf hb ?_
  have hj := vc_ok (C := ⟨w, H, [], noB, []⟩) c _ (fun _ _ h => h) (fun _ _ h => h) (h ⟨w, H, [], noB, []⟩ rfl)
  refine wp_mono (hj _ w ⟨noB, H, arg_fok hd hn hi.2 rfl (by simp), ?_⟩) ?_
  · exact ⟨rfl, rfl, rfl, Nat.le_refl _, fun _ _ _ => rfl, fun _ _ h => h, fun _ _ h => .inl h, hi.1, fun k e hk => by simp at hk, fun k e d hk => by simp at hk, fun k k' e e' d d' hk => by simp at hk, fun _ _ => rfl, (fun k d hk => by cases hk), hi.2⟩
  · rintro e a w' ⟨st, hq, β, H', hF, hW⟩
    have key : (match retSV P st fn.results.toList with | some (c, x) => c ∧ ∃ y, Sub st.M x y ∧ Φ y | none => False) →
        a.defers = [] ∧ ∃ v, (results fn a.tmps).run P w' = .ok v w' ∧ ∃ H' v' x, Ending.returned v = .returned v' ∧ Den noB H' x v' ∧ Φ x ∧ (∀ b cs, H b = some cs → H' b = some cs) ∧ (∀ b cs, H' b = some cs → H b = some cs ∨ w.heap.size ≤ b) ∧ InvH H' w' ∧ Below w.heap.size w w' := by
      intro hq
      refine ⟨hF.1.1, ?_⟩
      split at hq
      · rename_i c' x hr
        obtain ⟨hc, y, hs, hΦ⟩ := hq
        obtain ⟨v, hv1, hv2⟩ := ret_ok hF hW hr hc
        obtain ⟨H1, h1, h2, h3⟩ := fzL_ok x.ks hW (Sub_pure hs)
        have hd' := Sub_den h2 hs ⟨fun k e he hk => by
          obtain ⟨e', g1, g2, -, g4⟩ := h3 k e he
          exact ⟨e', g1, g2, g4 (.inr hk)⟩⟩ (Den.up hv2 (fun _ _ h => h) h1)
        exact ⟨v, hv1, H1, v, y, rfl, hd', hΦ, h2.ext, fun b cs hb => (h2.new b cs hb).imp id (fun h => h.resolve_right (by simp)), h2.invH, h2.os, h2.tape, h2.output, h2.size, fun k hk => h2.frame k hk (by simp)⟩
      · exact hq.elim
    cases e <;> simp only [retQ] at hq <;> simp only [bodyPost]
    case normal => exact key hq
    case ret => exact key hq

/-- what is to come behind a call that is walked in place -/
def retH (P : Program) (rs : List ResultVar) (pk : List Nat) (k : Tab → List Nat → SV → Prop) : Post := fun e st =>
  match e with
  | .ret | .normal => match retSV P st rs with
    | some (c, x) => c ∧ k st.M pk x
    | none => False
  | _ => False

end

/-! ### Less is known -/
def Le (C : Ctx) (st st' : St) : Prop := ∀ a w, SIM C st a w → SIM C st' a w
theorem Le.refl (C : Ctx) (st : St) : Le C st st := fun _ _ h => h
theorem Le.trans {C : Ctx} {a b c : St} (h : Le C a b) (k : Le C b c) : Le C a c := fun x w hs => k x w (h x w hs)

mutual
/-- only entries below n are named -/
def SV.lt (n : Nat) : SV → Bool
  | .ptr k _ _ => decide (k < n)
  | .view k _ _ => decide (k < n)
  | .agg l => SV.ltL n l
  | .tup l => SV.ltL n l
  | .ifc _ x => x.lt n
  | .fnv _ l r => SV.ltL n l && SV.ltL n r
  | .mp k => decide (k < n)
  | _ => true
def SV.ltL (n : Nat) : List SV → Bool
  | [] => true
  | x :: l => x.lt n && SV.ltL n l
end
mutual
theorem SV.lt_uses {n k : Nat} (hk : n ≤ k) : ∀ x : SV, x.lt n = true → x.uses k = false
  | .val _, _ => rfl
  | .ptr k' _ _, h => by simp [SV.lt] at h; simp [SV.uses]; omega
  | .view k' _ _, h => by simp [SV.lt] at h; simp [SV.uses]; omega
  | .mp k', h => by simp [SV.lt] at h; simp [SV.uses]; omega
  | .ro _, _ => rfl
  | .rop _ _, _ => rfl
  | .sen _ _, _ => rfl
  | .any, _ => rfl
  | .fnv _ l r, h => by
    simp only [SV.lt, Bool.and_eq_true] at h
    simp [SV.uses, SV.ltL_uses hk l h.1, SV.ltL_uses hk r h.2]
  | .agg l, h => by simp only [SV.uses]; exact SV.ltL_uses hk l (by simpa [SV.lt] using h)
  | .tup l, h => by simp only [SV.uses]; exact SV.ltL_uses hk l (by simpa [SV.lt] using h)
  | .ifc _ x, h => by simp only [SV.uses]; exact SV.lt_uses hk x (by simpa [SV.lt] using h)
theorem SV.ltL_uses {n k : Nat} (hk : n ≤ k) : ∀ l : List SV, SV.ltL n l = true → SV.usesL k l = false
  | [], _ => rfl
  | x :: l, h => by
    simp only [SV.ltL, Bool.and_eq_true] at h
    simp [SV.usesL, SV.lt_uses hk x h.1, SV.ltL_uses hk l h.2]
end
theorem ltL_map {α : Type} (n : Nat) (f : α → SV) (xs : List α) : SV.ltL n (xs.map f) = xs.all fun x => (f x).lt n := by
  induction xs with
  | nil => rfl
  | cons x xs ih => simp [SV.ltL, ih]
theorem pureL_map {α : Type} (f : α → SV) (xs : List α) : SV.pureL (xs.map f) = xs.all fun x => (f x).pure := by
  induction xs with
  | nil => rfl
  | cons x xs ih => simp [SV.pureL, ih]
theorem usesL_map {α : Type} (k : Nat) (f : α → SV) (xs : List α) : SV.usesL k (xs.map f) = xs.any fun x => (f x).uses k := by
  induction xs with
  | nil => rfl
  | cons x xs ih => simp [SV.usesL, ih]

def leF (fr : List (Nat × SV)) : List (Nat × SV) → Prop
  | [] => True
  | (t, x) :: r => get fr t = some x ∧ leF fr r
def leM : Tab → Tab → Prop
  | _, [] => True
  | x :: M, y :: M' => (y = none ∨ x = y) ∧ leM M M'
  | [], _ :: _ => False
def ltF (n : Nat) : List (Nat × SV) → Prop
  | [] => True
  | (_, x) :: r => x.lt n = true ∧ ltF n r
def ltM (n : Nat) : Tab → Prop
  | [] => True
  | none :: M => ltM n M
  | some e :: M => SV.ltL n e.es = true ∧ ltM n M
def leS (C : Ctx) (st st' : St) : Prop := st.n = st'.n ∧ leF st.fr st'.fr ∧ leM st.M st'.M ∧ (st.M.length = st'.M.length ∨ (ltF st'.M.length st'.fr ∧ ltM st'.M.length st'.M ∧ ∀ k ∈ C.fx, k < st'.M.length))

theorem leF_get {fr : List (Nat × SV)} : ∀ {fr' : List (Nat × SV)}, leF fr fr' → ∀ t x, get fr' t = some x → get fr t = some x
  | [], _, t, x, hg => by simp [get] at hg
  | (s, y) :: r, h, t, x, hg => by
    simp only [leF] at h
    simp only [get] at hg
    by_cases e : s = t
    · rw [if_pos e] at hg; simp only [Option.some.injEq] at hg; rw [← e, ← hg]; exact h.1
    · rw [if_neg e] at hg; exact leF_get h.2 t x hg
theorem leM_get : ∀ {M M' : Tab}, leM M M' → ∀ (k : Nat) (e : Ent), M'[k]? = some (some e) → M[k]? = some (some e)
  | M, [], _, k, e, hk => by simp at hk
  | [], _ :: _, h, k, e, hk => by simp [leM] at h
  | x :: M, y :: M', h, k, e, hk => by
    simp only [leM] at h
    cases k with
    | zero =>
      simp at hk
      subst hk
      rcases h.1 with h | h
      · cases h
      · simp [h]
    | succ k => simp at hk ⊢; exact leM_get h.2 k e hk
theorem ltF_get {n : Nat} : ∀ {fr : List (Nat × SV)}, ltF n fr → ∀ t x, get fr t = some x → x.lt n = true
  | [], _, t, x, hg => by simp [get] at hg
  | (s, y) :: r, h, t, x, hg => by
    simp only [ltF] at h
    simp only [get] at hg
    by_cases e : s = t
    · rw [if_pos e] at hg; simp only [Option.some.injEq] at hg; rw [← hg]; exact h.1
    · rw [if_neg e] at hg; exact ltF_get h.2 t x hg
theorem ltM_get {n : Nat} : ∀ {M : Tab}, ltM n M → ∀ (k : Nat) (e : Ent), M[k]? = some (some e) → SV.ltL n e.es = true
  | [], _, k, e, hk => by simp at hk
  | none :: M, h, k, e, hk => by
    simp only [ltM] at h
    cases k with
    | zero => simp at hk
    | succ k => exact ltM_get h k e (by simpa using hk)
  | some e' :: M, h, k, e, hk => by
    simp only [ltM] at h
    cases k with
    | zero => simp at hk; subst hk; exact h.1
    | succ k => exact ltM_get h.2 k e (by simpa using hk)

theorem Le.syn {C : Ctx} {st st' : St} (h : leS C st st') : Le C st st' := by
  rintro a w ⟨β, H, hF, hW⟩
  obtain ⟨h1, h2, h3, h4⟩ := h
  have hF' : FOK β H st'.n st'.fr a := by rw [← h1]; exact hF.sub (leF_get h2)
  have hget := leM_get h3
  rcases h4 with h4 | ⟨h4, h5, h6⟩
  · exact ⟨β, H, hF', hW.os, hW.tape, hW.output, hW.size, hW.frame, hW.ext, hW.new, hW.inv, fun k e hk => hW.ents k e (hget k e hk), fun k e d hk => hW.own k e d (hget k e hk),
      fun k k' e e' d d' hk hk' => hW.inj k k' e e' d d' (hget k e hk) (hget k' e' hk'), fun k hk => hW.fresh k (by omega), hW.keep, hW.glob⟩
  · have hb : ∀ k d, k < st'.M.length → β k = some d → (fun i => if i < st'.M.length then β i else none : Bnd) k = some d := fun k d hk hd => by simp [hk, hd]
    have hlt : ∀ k e, st'.M[k]? = some (some e) → k < st'.M.length := fun k e hk => by
      rcases Nat.lt_or_ge k st'.M.length with h' | h'
      · exact h'
      · rw [List.getElem?_eq_none h'] at hk; cases hk
    have hnm : ∀ n k (x : SV), x.lt n = true → x.uses k = true → k < n := fun n k x h1 h2 => by
      rcases Nat.lt_or_ge k n with h' | h'
      · exact h'
      · rw [SV.lt_uses h' x h1] at h2; cases h2
    have hnl : ∀ n k (l : List SV), SV.ltL n l = true → SV.usesL k l = true → k < n := fun n k l h1 h2 => by
      rcases Nat.lt_or_ge k n with h' | h'
      · exact h'
      · rw [SV.ltL_uses h' l h1] at h2; cases h2
    refine ⟨fun i => if i < st'.M.length then β i else none, H, ⟨hF'.1, hF'.2.1, fun t x hg => ?_⟩, hW.os, hW.tape, hW.output, hW.size, hW.frame, hW.ext, hW.new, hW.inv, fun k e hk => ?_, fun k e d hk hd => ?_,
      fun k k' e e' d d' hk hk' hd hd' => ?_, fun k hk => by simp; omega, fun k d hk hd => by rw [if_pos (h6 k hk)]; exact hW.keep k d hk hd, hW.glob⟩
    · obtain ⟨v, hv, hd⟩ := hF'.2.2 t x hg
      exact ⟨v, hv, Den.mono (fun _ _ h => h) x v (fun k d hk hd => hb k d (hnm _ k x (ltF_get h4 t x hg) hk) hd) hd⟩
    · have hel := ltM_get h5 k e hk
      rcases hW.ents k e (hget k e hk) with ⟨g1, g2⟩ | ⟨d, cs, T, vs, g1, g2, g3, g4, g5, g6⟩ | ⟨d, ms, g1, g2, g3, g4⟩
      · exact .inl ⟨hb _ _ (hlt k e hk) g1, g2⟩
      · exact .inr (.inl ⟨d, cs, T, vs, hb _ _ (hlt k e hk) g1, g2, g3, g4, DenE.mono (fun _ _ h => h) _ _ _ (fun j d hj hd => hb j d (hnl _ j _ hel hj) hd) g5, g6⟩)
      · exact .inr (.inr ⟨d, ms, hb _ _ (hlt k e hk) g1, g2, g3, DenK.mono (fun _ _ h => h) _ _ _ (fun j d hj hd => hb j d (hnl _ j _ hel hj) hd) g4⟩)
    · simp only [hlt k e hk, if_true] at hd; exact hW.own k e d (hget k e hk) hd
    · simp only [hlt k e hk, hlt k' e' hk', if_true] at hd hd'; exact hW.inj k k' e e' d d' (hget k e hk) (hget k' e' hk') hd hd'

theorem CodeJ.le {P : Program} {C : Ctx} {c : Code} {st st' : St} {Q : Post} (hl : Le C st st') (h : CodeJ P C c st' Q) : CodeJ P C c st Q := fun a w hs => h a w (hl a w hs)
theorem least_nat (p : Nat → Prop) : (∃ n, p n) → ∃ n, p n ∧ ∀ m, p m → n ≤ m := by
  rintro ⟨n, hn⟩
  induction n using Nat.strongRecOn with
  | _ n ih =>
    by_cases h : ∃ m, m < n ∧ p m
    · obtain ⟨m, h1, h2⟩ := h; exact ih m h1 h2
    · exact ⟨n, hn, fun m hm => by
        rcases Nat.lt_or_ge m n with h' | h'
        · exact absurd ⟨m, h', hm⟩ h
        · exact h'⟩

theorem wp_loop_ix {P : Program} {c : Code} {Q : Exit → Act → World → Prop} {a : Act} {w : World} {ι : Type} (I : ι → Act → World → Prop) (μ : ι → Nat) (i0 : ι) (h0 : I i0 a w)
    (round : ∀ i a w, I i a w → c.wp P (Exit.then (fun a' w' => ∃ j, I j a' w' ∧ μ j < μ i) Q) a w) : (Code.loop c).wp P Q a w := by
  have hex : ∀ a w, (∃ i, I i a w) → ∃ n, (∃ i, I i a w ∧ μ i = n) ∧ ∀ m, (∃ i, I i a w ∧ μ i = m) → n ≤ m := fun a w ⟨i, hi⟩ => least_nat _ ⟨μ i, i, hi, rfl⟩
  have hf : ∃ ν : Act → World → Nat, ∀ a w, (∃ i, I i a w) → (∃ i, I i a w ∧ μ i = ν a w) ∧ ∀ j, I j a w → ν a w ≤ μ j := by
    refine ⟨fun a w => (Classical.epsilon fun n => (∃ i, I i a w ∧ μ i = n) ∧ ∀ m, (∃ i, I i a w ∧ μ i = m) → n ≤ m), fun a w h => ?_⟩
    have := Classical.epsilon_spec (hex a w h)
    exact ⟨this.1, fun j hj => this.2 _ ⟨j, hj, rfl⟩⟩
  obtain ⟨ν, hν⟩ := hf
  refine wp_loop (fun a w => ∃ i, I i a w) ν ⟨i0, h0⟩ ?_
  intro a w h
  obtain ⟨⟨i, hi, he⟩, -⟩ := hν a w h
  refine wp_mono (round i a w hi) ?_
  intro e a' w' hq
  cases e <;> simp only [Exit.then] at hq ⊢ <;> first | exact hq | skip
  obtain ⟨j, hj, hlt⟩ := hq
  exact ⟨⟨j, hj⟩, Nat.lt_of_le_of_lt ((hν a' w' ⟨j, hj⟩).2 j hj) (by rw [← he]; exact hlt)⟩

/-- A loop: a family of states with a condition; each round comes to another one of it that measures less. -/
theorem CodeJ.loop {P : Program} {C : Ctx} {c : Code} {st : St} {Q : Post} {ι : Type} (I : ι → St) (Cn : ι → Prop) (μ : ι → Nat) (i0 : ι) (h0 : Cn i0) (hl : leS C st (I i0))
    (hr : ∀ i, Cn i → vc P C c (I i) (thn (fun st' => ∃ j, Cn j ∧ μ j < μ i ∧ leS C st' (I j)) Q) (thn (fun st' => ∃ j, Cn j ∧ μ j < μ i ∧ leS C st' (I j)) Q)) : CodeJ P C (.loop c) st Q := by
  intro a w hs
  refine wp_loop_ix (fun i a w => Cn i ∧ SIM C (I i) a w) μ i0 ⟨h0, Le.syn hl a w hs⟩ ?_
  rintro i a w ⟨hc, hs⟩
  refine wp_mono (vc_ok c _ (fun _ _ h => h) (fun _ _ h => h) (hr i hc) a w hs) ?_
  rintro e a' w' ⟨st', h1, h2⟩
  cases e <;> simp only [thn, Exit.then] at h1 ⊢ <;> first | exact ⟨st', h1, h2⟩ | skip
  obtain ⟨j, g1, g2, g3⟩ := h1
  exact ⟨j, ⟨g1, Le.syn g3 a' w' h2⟩, g2⟩

/-- A cut behind a piece of code: all that comes out of it is one of a family of states. -/
theorem CodeJ.cut {P : Program} {C : Ctx} {c : Code} {st : St} {Q : Post} (Q1 : Post) (h1 : CodeJ P C c st Q1) (h2 : ∀ e st', Q1 e st' → ∃ st'', leS C st' st'' ∧ Q e st'') : CodeJ P C c st Q := by
  intro a w hs
  refine wp_mono (h1 a w hs) ?_
  rintro e a' w' ⟨st', h3, h4⟩
  obtain ⟨st'', h5, h6⟩ := h2 e st' h3
  exact ⟨st'', h6, Le.syn h5 a' w' h4⟩

/-- A nil slice, taken as an entry of its own. -/
theorem CodeJ.nil {P : Program} {C : Ctx} {c : Code} {st : St} {Q : Post} (t s : Nat) (h : get st.fr t = some (.val (.slice none 0 0))) (h' : CodeJ P C c ⟨st.n, (t, .view st.M.length 0 0) :: st.fr, st.M ++ [some ⟨s, [], false⟩]⟩ Q) : CodeJ P C c st Q := by
  rintro a w ⟨β, H, hF, hW⟩
  refine h' a w ⟨β.upd st.M.length none, H, ⟨hF.1, hF.2.1, fun t' x hg => ?_⟩, hW.nil s⟩
  simp only [get] at hg
  split at hg
  · rename_i e
    subst e
    simp only [Option.some.injEq] at hg
    subst hg
    obtain ⟨v, hv, hd⟩ := hF.2.2 t _ h
    simp only [Den] at hd
    refine ⟨v, hv, ?_⟩
    simp only [Den]
    exact .inl (by simp [Bnd.upd, hd.1])
  · obtain ⟨v, hv, hd⟩ := hF.2.2 t' x hg
    exact ⟨v, hv, hd.up (fun k d hk => upd_old hW _ k d hk) (fun _ _ h => h)⟩

end Go.Sv

