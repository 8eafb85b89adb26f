/- An entry that nobody writes any more, read as a value wherever it is named: in slots, in other entries, at a return. A text of the prover's own; it names no program. -/
import Derived.Test.YtadkomdooleipaaGreatDoorKPl
namespace Go.Sv
open Go Go.RowKit
mutual
/-- a value in which entry k is read as what it holds -/
def sbV (k : Nat) (es : List SV) : SV → SV
  | .view k' i n => if k' = k ∧ i + n ≤ es.length then .ro ((es.drop i).take n) else .view k' i n
  | .ptr k' i j => if k' = k ∧ i < es.length ∧ (lget es i).isTup = false then .rop (lget es i) j else .ptr k' i j
  | .agg l => .agg (sbL k es l)
  | .tup l => .tup (sbL k es l)
  | .ifc t x => .ifc t (sbV k es x)
  | .fnv f l r => .fnv f (sbL k es l) (sbL k es r)
  | .val v => .val v
  | .ro l => .ro l
  | .rop x j => .rop x j
  | .sen t g => .sen t g
  | .any => .any
  | .mp k' => .mp k'
def sbL (k : Nat) (es : List SV) : List SV → List SV
  | [] => []
  | x :: l => sbV k es x :: sbL k es l
end
mutual
theorem sbV_pure (k : Nat) (es : List SV) : ∀ x : SV, x.pure = true → sbV k es x = x
  | .mp _, _ => rfl
  | .view _ _ _, h => by simp [SV.pure] at h
  | .ptr _ _ _, h => by simp [SV.pure] at h
  | .agg l, h => by simp only [sbV]; rw [sbL_pure k es l (by simpa [SV.pure] using h)]
  | .tup l, h => by simp only [sbV]; rw [sbL_pure k es l (by simpa [SV.pure] using h)]
  | .ifc _ x, h => by simp only [sbV]; rw [sbV_pure k es x (by simpa [SV.pure] using h)]
  | .fnv _ l r, h => by
    simp only [SV.pure, Bool.and_eq_true] at h
    simp only [sbV]; rw [sbL_pure k es l h.1, sbL_pure k es r h.2]
  | .val _, _ => rfl
  | .ro _, _ => rfl
  | .rop _ _, _ => rfl
  | .sen _ _, _ => rfl
  | .any, _ => rfl
theorem sbL_pure (k : Nat) (es : List SV) : ∀ l : List SV, SV.pureL l = true → sbL k es l = l
  | [], _ => rfl
  | x :: l, h => by
    simp only [SV.pureL, Bool.and_eq_true] at h
    simp only [sbL]; rw [sbV_pure k es x h.1, sbL_pure k es l h.2]
end
theorem sbV_one (k : Nat) (es : List SV) (x : SV) (h : x.one = true) : (sbV k es x).one = true := by
  cases x with
  | ptr k' i j => simp only [sbV]; by_cases hc : k' = k ∧ i < es.length ∧ (lget es i).isTup = false <;> simp [hc, SV.one]
  | view k' i n => simp only [sbV]; by_cases hc : k' = k ∧ i + n ≤ es.length <;> simp [hc, SV.one]
  | agg l => cases h
  | tup l => cases h
  | val v => exact h
  | _ => rfl
section
variable {P : Program} {C : Ctx} {β : Bnd} {H : Hp} {M : Tab} {w : World}
mutual
theorem sbV_den (hW : WOK C β H M w) {k : Nat} {e : Ent} (hk : tget M k = some e) (hf : e.fz = true) : ∀ {x : SV} {v : Value}, Den β H x v → Den β H (sbV k e.es x) v
  | .val _, v, h => h
  | .ro _, v, h => h
  | .rop _ _, v, h => h
  | .sen _ _, v, h => h
  | .any, v, h => h
  | .mp _, v, h => h
  | .agg l, v, h => by
    simp only [Den, sbV] at h ⊢
    obtain ⟨vs, rfl, h⟩ := h
    exact ⟨vs, rfl, sbL_denL hW hk hf h⟩
  | .tup l, v, h => by
    simp only [Den, sbV] at h ⊢
    obtain ⟨vs, rfl, h⟩ := h
    exact ⟨vs, rfl, sbL_denT hW hk hf h⟩
  | .ifc t x, v, h => by
    simp only [Den, sbV] at h ⊢
    obtain ⟨u, rfl, h⟩ := h
    exact ⟨u, rfl, sbV_den hW hk hf h⟩
  | .fnv f l r, v, h => by
    simp only [Den, sbV] at h ⊢
    obtain ⟨vs, ws, rfl, h1, h2⟩ := h
    exact ⟨vs, ws, rfl, sbL_denT hW hk hf h1, sbL_denT hW hk hf h2⟩
  | .view k' i n, v, h => by
    simp only [sbV]
    split
    · rename_i hc
      obtain ⟨rfl, hin⟩ := hc
      have hlen : ((e.es.drop i).take n).length = n := by simp; omega
      simp only [Den] at h ⊢
      rcases h with ⟨a1, rfl, rfl, rfl⟩ | ⟨d, c, o, a1, a2, a3, a4, rfl⟩
      · left; exact ⟨by simp, _, _, rfl⟩
      · rcases hW.ents k' e (tget_some hk) with ⟨b1, _⟩ | ⟨d', cs, T, vs, b1, b2, b3, b4, b5, b6, b7, b8⟩ | ⟨d', ms, b1, b2, b3, b4⟩
        rotate_left 2
        · rw [a1] at b1; simp only [Option.some.injEq] at b1; subst b1
          rw [b2.2.1, b2.2.2] at a3
          have hn0 : n = 0 := by omega
          subst hn0
          left; exact ⟨by simp, _, _, rfl⟩
        · rw [a1] at b1; simp at b1
        · right
          rw [a1] at b1; simp only [Option.some.injEq] at b1; subst b1
          obtain ⟨c1, c2⟩ := b8 hf
          have b5' := pureL_den b5 c2
          have hl := b5'.length
          rcases Nat.eq_zero_or_pos n with rfl | hn
          · exact ⟨d.b, o, c, e.sz, cs, [], by simp, by simp, c1, by simp [DenE], by simp⟩
          · have ho := a4 (by omega)
            refine ⟨d.b, o, c, e.sz, cs, (vs.drop (i * e.sz)).take (n * e.sz), by rw [hlen], by rw [hlen]; exact a2, c1, (b5'.drop i).take n, fun q hq => ?_⟩
            simp only [List.length_take, List.length_drop] at hq
            rw [List.getElem?_take_of_lt (by omega), List.getElem?_drop, ho, b2]
            exact b7 _ (by omega)
    · exact h
  | .ptr k' i j, v, h => by
    simp only [sbV]
    split
    · rename_i hc
      obtain ⟨rfl, hin, hnt⟩ := hc
      simp only [Den] at h ⊢
      obtain ⟨d, a1, rfl⟩ := h
      rcases hW.ents k' e (tget_some hk) with ⟨b1, _⟩ | ⟨d', cs, T, vs, b1, b2, b3, b4, b5, b6, b7, b8⟩ | ⟨d', ms, b1, b2, b3, b4⟩
      rotate_left 2
      · obtain ⟨l, hl⟩ := b4.tups _ hin
        rw [hl] at hnt; simp [SV.isTup] at hnt
      · rw [a1] at b1; simp at b1
      · rw [a1] at b1; simp only [Option.some.injEq] at b1; subst b1
        obtain ⟨c1, c2⟩ := b8 hf
        have b5' := pureL_den b5 c2
        have hl := b5'.length
        obtain ⟨u, u1, u2, u3⟩ := b5'.get hin
        refine ⟨d.b, i * e.sz, cs, u, by rw [b2], c1, u1, fun q hq => ?_⟩
        rw [u2] at hq
        have := Nat.mul_le_mul_right e.sz (show i + 1 ≤ e.es.length from hin)
        rw [Nat.add_mul, Nat.one_mul] at this
        rw [b7 _ (by omega)]
        exact u3 q hq
    · exact h
theorem sbL_denL (hW : WOK C β H M w) {k : Nat} {e : Ent} (hk : tget M k = some e) (hf : e.fz = true) : ∀ {l : List SV} {vs : List Value}, DenL β H l vs → DenL β H (sbL k e.es l) vs
  | [], vs, h => h
  | x :: l, vs, h => by
    simp only [DenL, sbL] at h ⊢
    obtain ⟨v, r, rfl, h1, h2, h3⟩ := h
    exact ⟨v, r, rfl, sbV_one k e.es x h1, sbV_den hW hk hf h2, sbL_denL hW hk hf h3⟩
theorem sbL_denT (hW : WOK C β H M w) {k : Nat} {e : Ent} (hk : tget M k = some e) (hf : e.fz = true) : ∀ {l : List SV} {vs : List Value}, DenT β H l vs → DenT β H (sbL k e.es l) vs
  | [], vs, h => h
  | x :: l, vs, h => by
    simp only [DenT, sbL] at h ⊢
    obtain ⟨v, r, rfl, h2, h3⟩ := h
    exact ⟨v, r, rfl, sbV_den hW hk hf h2, sbL_denT hW hk hf h3⟩
end
theorem sbL_denE (hW : WOK C β H M w) {k : Nat} {e : Ent} (hk : tget M k = some e) (hf : e.fz = true) {s : Nat} : ∀ {l : List SV} {vs : List Value}, DenE β H s l vs → DenE β H s (sbL k e.es l) vs
  | [], vs, h => h
  | x :: l, vs, h => by
    simp only [DenE, sbL] at h ⊢
    obtain ⟨v, r, rfl, h1, h2, h3⟩ := h
    exact ⟨v, r, rfl, h1, sbV_den hW hk hf h2, sbL_denE hW hk hf h3⟩
theorem sbL_denK (hW : WOK C β H M w) {k : Nat} {e : Ent} (hk : tget M k = some e) (hf : e.fz = true) : ∀ {l : List SV} {ms : List MapEntry} {n : Nat}, DenK β H l ms n → DenK β H (sbL k e.es l) ms n
  | [], ms, n, h => h
  | x :: l, ms, n, h => by
    simp only [DenK, sbL] at h ⊢
    obtain ⟨key, y, m, r, rfl, h2, h3, h4, h5, h6, h7⟩ := h
    exact ⟨key, sbV k e.es y, m, r, by simp only [sbV, sbL], h2, h3, h4, h5, sbV_den hW hk hf h6, sbL_denK hW hk hf h7⟩
/-- a table in which entry k is read as what it holds -/
def sbM (k : Nat) (es : List SV) (M : Tab) : Tab := M.map fun oe => oe.map fun e => ⟨e.sz, sbL k es e.es, e.fz⟩
def sbF (k : Nat) (es : List SV) (fr : List (Nat × SV)) : List (Nat × SV) := fr.map fun q => (q.1, sbV k es q.2)
theorem WOK.sb (h : WOK C β H M w) {k : Nat} {e : Ent} (hk : tget M k = some e) (hf : e.fz = true) : WOK C β H (sbM k e.es M) w := by
  have at_ : ∀ (i : Nat) (x : Ent), (sbM k e.es M)[i]? = some (some x) → ∃ e0 : Ent, M[i]? = some (some e0) ∧ x = ⟨e0.sz, sbL k e.es e0.es, e0.fz⟩ := fun i x hi => by
    simp only [sbM, List.getElem?_map] at hi
    cases hm : M[i]? with
    | none => rw [hm] at hi; cases hi
    | some oe =>
      rw [hm] at hi
      cases oe with
      | none => simp at hi
      | some e0 => simp at hi; exact ⟨e0, rfl, hi.symm⟩
  refine ⟨h.os, h.tape, h.output, h.size, h.frame, h.ext, h.new, h.inv, fun i x hi => ?_, fun i x d hi hd => ?_, fun i i' e1 e2 d1 d2 hi hi' hd1 hd2 hb => ?_, fun i hi => h.fresh i (by simpa [sbM] using hi), h.keep, h.glob⟩
  · obtain ⟨e0, he0, rfl⟩ := at_ i x hi
    rcases h.ents i e0 he0 with ⟨h1, h2⟩ | ⟨d, cs, T, vs, h1, h2, h3, h4, h5, h6, h7, h8⟩ | ⟨d, ms, h1, h2, h3, h4⟩
    · exact .inl ⟨h1, by simp [h2, sbL]⟩
    · refine .inr (.inl ⟨d, cs, T, vs, h1, h2, h3, h4, sbL_denE h hk hf h5, h6, h7, fun hfz => ?_⟩)
      obtain ⟨g1, g2⟩ := h8 hfz
      exact ⟨g1, by simp only; rw [sbL_pure k e.es _ g2]; exact g2⟩
    · exact .inr (.inr ⟨d, ms, h1, h2, h3, sbL_denK h hk hf h4⟩)
  · obtain ⟨e0, he0, rfl⟩ := at_ i x hi
    exact h.own i e0 d he0 hd
  · obtain ⟨e0, he0, rfl⟩ := at_ i e1 hi
    obtain ⟨e0', he0', rfl⟩ := at_ i' e2 hi'
    exact h.inj i i' e0 e0' d1 d2 he0 he0' hd1 hd2 hb
theorem get_sbF {k : Nat} {es : List SV} : ∀ {fr : List (Nat × SV)} {t : Nat} {x : SV}, get (sbF k es fr) t = some x → ∃ y, get fr t = some y ∧ x = sbV k es y
  | [], t, x, h => by simp [sbF, get] at h
  | (s, y) :: r, t, x, h => by
    simp only [sbF, List.map_cons, get] at h ⊢
    split at h
    · rename_i e
      simp only [Option.some.injEq] at h
      exact ⟨y, by rw [if_pos e], h.symm⟩
    · rename_i e
      obtain ⟨z, h1, h2⟩ := get_sbF (fr := r) h
      exact ⟨z, by rw [if_neg e]; exact h1, h2⟩
/-- the state in which entry k is not written any more, and is read as what it holds -/
def frzS (k : Nat) (st : St) : St := match tget st.M k with
  | some e => ⟨st.n, sbF k e.es st.fr, sbM k e.es (tset st.M k (some ⟨e.sz, e.es, true⟩))⟩
  | none => st
theorem Le.frz {st : St} (k : Nat) {e : Ent} (hk : tget st.M k = some e) (hp : SV.pureL e.es = true) : Le C st (frzS k st) := by
  rintro a w ⟨β, H, hF, hW⟩
  obtain ⟨H', h1, h2⟩ := hW.freeze (tget_some hk) hp
  rw [← tset_eq] at h2
  have hk' : tget (tset st.M k (some ⟨e.sz, e.es, true⟩)) k = some ⟨e.sz, e.es, true⟩ := by
    rw [tget_set _ _ _ _ ⟨e, hk⟩, if_pos rfl]
  have hF' := hF.mono (β' := β) (H' := H') (fun _ _ h => h) h1
  unfold frzS
  rw [hk]
  show SIM C ⟨st.n, sbF k e.es st.fr, sbM k e.es (tset st.M k (some ⟨e.sz, e.es, true⟩))⟩ a w
  refine ⟨β, H', ⟨⟨hF'.1.1, hF'.1.2⟩, hF'.2.1, fun t x hg => ?_⟩, h2.sb (e := ⟨e.sz, e.es, true⟩) hk' rfl⟩
  obtain ⟨y, hy, rfl⟩ := get_sbF hg
  obtain ⟨v, hv, hd⟩ := hF'.2.2 t y hy
  exact ⟨v, hv, sbV_den (e := ⟨e.sz, e.es, true⟩) h2 hk' rfl hd⟩
/-- an entry is not written any more -/
theorem CodeJ.frz {c : Code} {st : St} {Q : Post} (k : Nat) {e : Ent} (hk : tget st.M k = some e) (hp : SV.pureL e.es = true) (h : CodeJ P C c (frzS k st) Q) : CodeJ P C c st Q := CodeJ.le (Le.frz k hk hp) h
/-- what is asked may be asked of a state of which less is known -/
def wkQ (C : Ctx) (Q : Post) : Post := fun e st => ∃ st', Le C st st' ∧ Q e st'
theorem QQ_wk {C : Ctx} {Q : Post} : ∀ e a w, QQ C (wkQ C Q) e a w → QQ C Q e a w := fun e a w ⟨st, ⟨st', h1, h2⟩, h3⟩ => ⟨st', h2, h1 a w h3⟩
theorem CodeJ.wk {c : Code} {st : St} {Q : Post} (h : CodeJ P C c st (wkQ C Q)) : CodeJ P C c st Q := fun a w hs => wp_mono (h a w hs) QQ_wk
theorem pure_enterW {f : FuncId} {fn : Func} {c : Code} {args : List SV} {Φ : SV → Prop} (hf : P.funcs[f]? = some fn) (hb : fn.body = some c) (hn : args.length ≤ fn.ntmps)
    (h : ∀ C : Ctx, C.fx = [] → vc P C c ⟨fn.ntmps, argFr 0 args, []⟩ (wkQ C (retQ P fn.results.toList Φ)) (wkQ C (retQ P fn.results.toList Φ))) : PureC P f args Φ :=
  pure_enterJ hf hb hn fun C hC => CodeJ.wk (vc_ok c _ (fun _ _ h => h) (fun _ _ h => h) (h C hC))
@[simp] theorem sbM_nil {k : Nat} {es : List SV} : sbM k es [] = [] := rfl
@[simp] theorem sbM_none {k : Nat} {es : List SV} {M : Tab} : sbM k es (none :: M) = none :: sbM k es M := rfl
@[simp] theorem sbM_some {k sz : Nat} {es l : List SV} {f : Bool} {M : Tab} : sbM k es (some ⟨sz, l, f⟩ :: M) = some ⟨sz, sbL k es l, f⟩ :: sbM k es M := rfl
@[simp] theorem sbF_nil {k : Nat} {es : List SV} : sbF k es [] = [] := rfl
@[simp] theorem sbF_cons {k t : Nat} {es : List SV} {x : SV} {fr : List (Nat × SV)} : sbF k es ((t, x) :: fr) = (t, sbV k es x) :: sbF k es fr := rfl
@[simp] theorem sbL_nil {k : Nat} {es : List SV} : sbL k es [] = [] := rfl
@[simp] theorem sbL_cons {k : Nat} {es l : List SV} {x : SV} : sbL k es (x :: l) = sbV k es x :: sbL k es l := rfl
@[simp] theorem sbV_view {k k' i n : Nat} {es : List SV} : sbV k es (.view k' i n) = if k' = k ∧ i + n ≤ es.length then .ro ((es.drop i).take n) else .view k' i n := by simp only [sbV]
@[simp] theorem sbV_ptr {k k' i j : Nat} {es : List SV} : sbV k es (.ptr k' i j) = if k' = k ∧ i < es.length ∧ (lget es i).isTup = false then .rop (lget es i) j else .ptr k' i j := by simp only [sbV]
@[simp] theorem sbV_agg {k : Nat} {es l : List SV} : sbV k es (.agg l) = .agg (sbL k es l) := by simp only [sbV]
@[simp] theorem sbV_tup {k : Nat} {es l : List SV} : sbV k es (.tup l) = .tup (sbL k es l) := by simp only [sbV]
@[simp] theorem sbV_val {k : Nat} {es : List SV} {v : Value} : sbV k es (.val v) = .val v := by simp only [sbV]
@[simp] theorem sbV_ro {k : Nat} {es l : List SV} : sbV k es (.ro l) = .ro l := by simp only [sbV]
@[simp] theorem sbV_rop {k j : Nat} {es : List SV} {x : SV} : sbV k es (.rop x j) = .rop x j := by simp only [sbV]
@[simp] theorem sbV_sen {k t g : Nat} {es : List SV} : sbV k es (.sen t g) = .sen t g := by simp only [sbV]
@[simp] theorem sbV_any {k : Nat} {es : List SV} : sbV k es .any = .any := by simp only [sbV]
@[simp] theorem sbV_mp {k k' : Nat} {es : List SV} : sbV k es (.mp k') = .mp k' := by simp only [sbV]
end
section
variable {P : Program} {C : Ctx} {β : Bnd} {H : Hp} {M : Tab} {w : World}
/-- A loop whose rounds may end in more than is told of the next one. -/
theorem CodeJ.loopL {c : Code} {st : St} {Q : Post} {ι : Type} (I : ι → St) (Cn : ι → Prop) (μ : ι → Nat) (i0 : ι) (h0 : Cn i0) (hl : leS C st (I i0))
    (hr : ∀ i, Cn i → vc P C c (I i) (thn (fun st' => ∃ j, Cn j ∧ μ j < μ i ∧ Le C st' (I j)) Q) (thn (fun st' => ∃ j, Cn j ∧ μ j < μ i ∧ Le C st' (I j)) Q)) : CodeJ P C (.loop c) st Q := by
  intro a w hs
  refine wp_loop_ix (fun i a w => Cn i ∧ SIM C (I i) a w) μ i0 ⟨h0, Le.syn hl a w hs⟩ ?_
  rintro i a w ⟨hc, hs⟩
  refine wp_mono (vc_ok c _ (fun _ _ h => h) (fun _ _ h => h) (hr i hc) a w hs) ?_
  rintro e a' w' ⟨st', h1, h2⟩
  cases e <;> simp only [thn, Exit.then] at h1 ⊢ <;> first | exact ⟨st', h1, h2⟩ | skip
  obtain ⟨j, g1, g2, g3⟩ := h1
  exact ⟨j, ⟨g1, g3 a' w' h2⟩, g2⟩
/-- a nil slice in an entry, taken as an entry of its own -/
theorem Le.nilCell {st : St} (k j s : Nat) {e : Ent} {l : List SV} (hk : tget st.M k = some e) (hes : e.es = [.agg l]) (hfz : e.fz = false) (hj : lget l j = .val (.slice none 0 0)) (hjl : j < l.length) :
    Le C st ⟨st.n, st.fr, tset st.M k (some ⟨e.sz, [.agg (lset l j (.view st.M.length 0 0))], false⟩) ++ [some ⟨s, [], false⟩]⟩ := by
  rintro a w ⟨β, H, hF, hW⟩
  have hk' := tget_some hk
  have hkl : k < st.M.length := by
    rcases Nat.lt_or_ge k st.M.length with h' | h'
    · exact h'
    · rw [List.getElem?_eq_none h'] at hk'; cases hk'
  have hW2 := hW.nil s
  refine ⟨β.upd st.M.length none, H, hF.mono (upd_old hW none) (fun _ _ h => h), ?_⟩
  have hden : ∀ {l : List SV} {vs : List Value} {j : Nat}, DenL (β.upd st.M.length none) H l vs → lget l j = .val (.slice none 0 0) → j < l.length → DenL (β.upd st.M.length none) H (lset l j (.view st.M.length 0 0)) vs := by
    intro l
    induction l with
    | nil => intro vs j _ _ hj; simp at hj
    | cons x l ih =>
      intro vs j h hj hjl
      simp only [DenL] at h
      obtain ⟨v, r, rfl, h1, h2, h3⟩ := h
      cases j with
      | zero =>
        simp only [lget] at hj
        subst hj
        simp only [lset, DenL]
        refine ⟨v, r, rfl, rfl, ?_, h3⟩
        simp only [Den] at h2 ⊢
        left
        exact ⟨by simp [Bnd.upd], trivial, trivial, h2.1⟩
      | succ j =>
        simp only [lset, DenL]
        exact ⟨v, r, rfl, h1, h2, ih h3 (by simpa [lget] using hj) (by simpa using hjl)⟩
  have e1 : tset st.M k (some ⟨e.sz, [.agg (lset l j (.view st.M.length 0 0))], false⟩) ++ [some (⟨s, [], false⟩ : Ent)] = (st.M ++ [some (⟨s, [], false⟩ : Ent)]).set k (some ⟨e.sz, [.agg (lset l j (.view st.M.length 0 0))], false⟩) := by
    rw [tset_eq, List.set_append_left _ _ hkl]
  show WOK C _ H (tset st.M k _ ++ _) w
  rw [e1]
  have hkM : (st.M ++ [some (⟨s, [], false⟩ : Ent)])[k]? = some (some e) := by rw [List.getElem?_append_left hkl]; exact hk'
  refine ⟨hW2.os, hW2.tape, hW2.output, hW2.size, hW2.frame, hW2.ext, hW2.new, hW2.inv, fun i x hi => ?_, fun i x d hi hd => ?_, fun i i' x1 x2 d1 d2 hi hi' hd1 hd2 hb => ?_, fun i hi => hW2.fresh i (by simpa using hi), hW2.keep, hW2.glob⟩
  · rcases getElem?_set_cases hi with ⟨rfl, he, _⟩ | ⟨_, hi'⟩
    · simp only [Option.some.injEq] at he
      subst he
      rcases hW2.ents i e hkM with ⟨h1, h2⟩ | ⟨d, cs, T, vs, h1, h2, h3, h4, h5, h6, h7, h8⟩ | ⟨d, ms, h1, h2, h3, h4⟩
      rotate_left 2
      · rw [hes] at h4
        obtain ⟨q, hq⟩ := h4.tups 0 (by simp)
        simp [lget] at hq
      · rw [hes] at h2; cases h2
      · refine .inr (.inl ⟨d, cs, T, vs, h1, h2, h3, h4, ?_, h6, h7, fun hf => by cases hf⟩)
        rw [hes] at h5
        simp only [DenE] at h5 ⊢
        obtain ⟨v, r, rfl, g1, g2, g3⟩ := h5
        refine ⟨v, r, rfl, g1, ?_, g3⟩
        simp only [Den] at g2 ⊢
        obtain ⟨us, rfl, g4⟩ := g2
        exact ⟨us, rfl, hden g4 hj hjl⟩
    · exact hW2.ents i x hi'
  · rcases getElem?_set_cases hi with ⟨rfl, he, _⟩ | ⟨_, hi'⟩
    · simp only [Option.some.injEq] at he
      subst he
      have := hW2.own i e d hkM hd
      exact ⟨fun _ => this.1 hfz, this.2⟩
    · exact hW2.own i x d hi' hd
  · have aux : ∀ (q : Nat) (x : Ent), ((st.M ++ [some (⟨s, [], false⟩ : Ent)]).set k (some ⟨e.sz, [.agg (lset l j (.view st.M.length 0 0))], false⟩))[q]? = some (some x) → ∃ x0 : Ent, (st.M ++ [some (⟨s, [], false⟩ : Ent)])[q]? = some (some x0) := fun q x hq => by
      rcases getElem?_set_cases hq with ⟨rfl, _, _⟩ | ⟨_, hq'⟩
      · exact ⟨e, hkM⟩
      · exact ⟨x, hq'⟩
    obtain ⟨y1, hy1⟩ := aux i x1 hi
    obtain ⟨y2, hy2⟩ := aux i' x2 hi'
    exact hW2.inj i i' y1 y2 d1 d2 hy1 hy2 hd1 hd2 hb
end

mutual
/-- a value whose nil slices are read as slices of nothing -/
def nlV : SV → SV
  | .val (.slice none 0 0) => .ro []
  | .val v => .val v
  | .agg l => .agg (nlL l)
  | .tup l => .tup (nlL l)
  | .ifc t x => .ifc t (nlV x)
  | x => x
def nlL : List SV → List SV
  | [] => []
  | x :: l => nlV x :: nlL l
end
theorem nlV_val {v : Value} : nlV (.val v) = .val v ∨ (v = .slice none 0 0 ∧ nlV (.val v) = .ro []) := by
  by_cases h : v = .slice none 0 0
  · right; subst h; exact ⟨rfl, rfl⟩
  · left; unfold nlV; split <;> simp_all
theorem nlV_one (x : SV) (h : x.one = true) : (nlV x).one = true := by
  cases x with
  | val v => rcases nlV_val (v := v) with e | ⟨_, e⟩ <;> rw [e]; exact h; rfl
  | agg l => cases h
  | tup l => cases h
  | _ => rfl
section
variable {P : Program} {C : Ctx} {β : Bnd} {H : Hp} {M : Tab} {w : World}
mutual
theorem nlV_den : ∀ {x : SV} {v : Value}, Den β H x v → Den β H (nlV x) v
  | .val u, v, h => by
    rcases nlV_val (v := u) with e | ⟨e1, e⟩
    · rw [e]; exact h
    · rw [e]; subst e1
      simp only [Den] at h ⊢
      left; exact ⟨trivial, _, _, h.1⟩
  | .agg l, v, h => by
    simp only [Den, nlV] at h ⊢
    obtain ⟨vs, rfl, h⟩ := h
    exact ⟨vs, rfl, nlL_denL h⟩
  | .tup l, v, h => by
    simp only [Den, nlV] at h ⊢
    obtain ⟨vs, rfl, h⟩ := h
    exact ⟨vs, rfl, nlL_denT h⟩
  | .ifc t x, v, h => by
    simp only [Den, nlV] at h ⊢
    obtain ⟨u, rfl, h⟩ := h
    exact ⟨u, rfl, nlV_den h⟩
  | .fnv f l r, v, h => h
  | .view _ _ _, v, h => h
  | .ptr _ _ _, v, h => h
  | .ro _, v, h => h
  | .rop _ _, v, h => h
  | .sen _ _, v, h => h
  | .any, v, h => h
  | .mp _, v, h => h
theorem nlL_denL : ∀ {l : List SV} {vs : List Value}, DenL β H l vs → DenL β H (nlL l) vs
  | [], vs, h => h
  | x :: l, vs, h => by
    simp only [DenL, nlL] at h ⊢
    obtain ⟨v, r, rfl, h1, h2, h3⟩ := h
    exact ⟨v, r, rfl, nlV_one x h1, nlV_den h2, nlL_denL h3⟩
theorem nlL_denT : ∀ {l : List SV} {vs : List Value}, DenT β H l vs → DenT β H (nlL l) vs
  | [], vs, h => h
  | x :: l, vs, h => by
    simp only [DenT, nlL] at h ⊢
    obtain ⟨v, r, rfl, h2, h3⟩ := h
    exact ⟨v, r, rfl, nlV_den h2, nlL_denT h3⟩
end
theorem nlL_denE {s : Nat} : ∀ {l : List SV} {vs : List Value}, DenE β H s l vs → DenE β H s (nlL l) vs
  | [], vs, h => h
  | x :: l, vs, h => by
    simp only [DenE, nlL] at h ⊢
    obtain ⟨v, r, rfl, h1, h2, h3⟩ := h
    exact ⟨v, r, rfl, h1, nlV_den h2, nlL_denE h3⟩
mutual
theorem nlV_pure : ∀ {x : SV}, x.pure = true → (nlV x).pure = true
  | .val u, h => by
    rcases nlV_val (v := u) with e | ⟨e1, e⟩ <;> rw [e] <;> rfl
  | .agg l, h => by simp only [nlV, SV.pure] at h ⊢; exact nlL_pure h
  | .tup l, h => by simp only [nlV, SV.pure] at h ⊢; exact nlL_pure h
  | .ifc t x, h => by simp only [nlV, SV.pure] at h ⊢; exact nlV_pure h
  | .fnv f l r, h => h
  | .view _ _ _, h => h
  | .ptr _ _ _, h => h
  | .ro _, h => h
  | .rop _ _, h => h
  | .sen _ _, h => h
  | .any, h => h
  | .mp _, h => h
theorem nlL_pure : ∀ {l : List SV}, SV.pureL l = true → SV.pureL (nlL l) = true
  | [], h => h
  | x :: l, h => by
    simp only [SV.pureL, nlL, Bool.and_eq_true] at h ⊢
    exact ⟨nlV_pure h.1, nlL_pure h.2⟩
end
theorem nlL_denK : ∀ {l : List SV} {ms : List MapEntry} {n : Nat}, DenK β H l ms n → (∀ x ∈ l, ∀ u y, x = .tup [.val u, y] → nlV (.val u) = .val u) → DenK β H (nlL l) ms n
  | [], ms, n, h, _ => h
  | x :: l, ms, n, h, hn => by
    simp only [DenK, nlL] at h ⊢
    obtain ⟨key, y, m, r, rfl, h2, h3, h4, h5, h6, h7⟩ := h
    refine ⟨key, nlV y, m, r, by simp only [nlV, nlL]; rw [hn (.tup [.val key, y]) (List.mem_cons_self ..) key y rfl], h2, h3, h4, h5, nlV_den h6, nlL_denK h7 fun x hx => hn x (by simp [hx])⟩
theorem keys_nl : ∀ {l : List SV} {ms : List MapEntry} {n : Nat}, DenK β H l ms n → ∀ x ∈ l, ∀ u y, x = .tup [.val u, y] → nlV (.val u) = .val u
  | [], ms, n, h, x, hx, _, _, _ => by cases hx
  | z :: l, ms, n, h, x, hx, u, y, e => by
    simp only [DenK] at h
    obtain ⟨key, y', m, r, rfl, h2, h3, h4, h5, h6, h7⟩ := h
    rcases List.mem_cons.1 hx with rfl | hx
    · simp only [SV.tup.injEq, List.cons.injEq, SV.val.injEq] at e
      obtain ⟨rfl, -⟩ := e
      rcases nlV_val (v := key) with e | ⟨e1, -⟩
      · exact e
      · subst e1; cases h4
    · exact keys_nl h7 x hx u y e
def nlM (M : Tab) : Tab := M.map fun oe => oe.map fun e => ⟨e.sz, nlL e.es, e.fz⟩
def nlF (fr : List (Nat × SV)) : List (Nat × SV) := fr.map fun q => (q.1, nlV q.2)
theorem WOK.nl (h : WOK C β H M w) : WOK C β H (nlM M) w := by
  have at_ : ∀ (i : Nat) (x : Ent), (nlM M)[i]? = some (some x) → ∃ e0 : Ent, M[i]? = some (some e0) ∧ x = ⟨e0.sz, nlL e0.es, e0.fz⟩ := fun i x hi => by
    simp only [nlM, List.getElem?_map] at hi
    cases hm : M[i]? with
    | none => rw [hm] at hi; cases hi
    | some oe =>
      rw [hm] at hi
      cases oe with
      | none => simp at hi
      | some e0 => simp at hi; exact ⟨e0, rfl, hi.symm⟩
  refine ⟨h.os, h.tape, h.output, h.size, h.frame, h.ext, h.new, h.inv, fun i x hi => ?_, fun i x d hi hd => ?_, fun i i' e1 e2 d1 d2 hi hi' hd1 hd2 hb => ?_, fun i hi => h.fresh i (by simpa [nlM] using hi), h.keep, h.glob⟩
  · obtain ⟨e0, he0, rfl⟩ := at_ i x hi
    rcases h.ents i e0 he0 with ⟨h1, h2⟩ | ⟨d, cs, T, vs, h1, h2, h3, h4, h5, h6, h7, h8⟩ | ⟨d, ms, h1, h2, h3, h4⟩
    · exact .inl ⟨h1, by simp [h2, nlL]⟩
    · exact .inr (.inl ⟨d, cs, T, vs, h1, h2, h3, h4, nlL_denE h5, h6, h7, fun hfz => ⟨(h8 hfz).1, nlL_pure (h8 hfz).2⟩⟩)
    · exact .inr (.inr ⟨d, ms, h1, h2, h3, nlL_denK h4 (keys_nl h4)⟩)
  · obtain ⟨e0, he0, rfl⟩ := at_ i x hi
    exact h.own i e0 d he0 hd
  · obtain ⟨e0, he0, rfl⟩ := at_ i e1 hi
    obtain ⟨e0', he0', rfl⟩ := at_ i' e2 hi'
    exact h.inj i i' e0 e0' d1 d2 he0 he0' hd1 hd2 hb
theorem get_nlF : ∀ {fr : List (Nat × SV)} {t : Nat} {x : SV}, get (nlF fr) t = some x → ∃ y, get fr t = some y ∧ x = nlV y
  | [], t, x, h => by simp [nlF, get] at h
  | (s, y) :: r, t, x, h => by
    simp only [nlF, List.map_cons, get] at h ⊢
    split at h
    · rename_i e
      simp only [Option.some.injEq] at h
      exact ⟨y, by rw [if_pos e], h.symm⟩
    · rename_i e
      obtain ⟨z, h1, h2⟩ := get_nlF (fr := r) h
      exact ⟨z, by rw [if_neg e]; exact h1, h2⟩
def nlS (st : St) : St := ⟨st.n, nlF st.fr, nlM st.M⟩
theorem Le.nl (st : St) : Le C st (nlS st) := by
  rintro a w ⟨β, H, hF, hW⟩
  refine ⟨β, H, ⟨⟨hF.1.1, hF.1.2⟩, hF.2.1, fun t x hg => ?_⟩, hW.nl⟩
  obtain ⟨y, hy, rfl⟩ := get_nlF hg
  obtain ⟨v, hv, hd⟩ := hF.2.2 t y hy
  exact ⟨v, hv, nlV_den hd⟩
@[simp] theorem nlM_nil : nlM [] = [] := rfl
@[simp] theorem nlM_none {M : Tab} : nlM (none :: M) = none :: nlM M := rfl
@[simp] theorem nlM_some {sz : Nat} {l : List SV} {f : Bool} {M : Tab} : nlM (some ⟨sz, l, f⟩ :: M) = some ⟨sz, nlL l, f⟩ :: nlM M := rfl
@[simp] theorem nlF_nil : nlF [] = [] := rfl
@[simp] theorem nlF_cons {t : Nat} {x : SV} {fr : List (Nat × SV)} : nlF ((t, x) :: fr) = (t, nlV x) :: nlF fr := rfl
@[simp] theorem nlL_nil : nlL [] = [] := rfl
@[simp] theorem nlL_cons {l : List SV} {x : SV} : nlL (x :: l) = nlV x :: nlL l := rfl
@[simp] theorem nlV_nil : nlV (.val (.slice none 0 0)) = .ro [] := rfl
@[simp] theorem nlV_int {k : IntKind} {n : Int} : nlV (.val (.int k n)) = .val (.int k n) := rfl
@[simp] theorem nlV_bool {b : Bool} : nlV (.val (.bool b)) = .val (.bool b) := rfl
@[simp] theorem nlV_str {b : ByteArray} : nlV (.val (.string b)) = .val (.string b) := rfl
@[simp] theorem nlV_iface : nlV (.val .nilIface) = .val .nilIface := rfl
@[simp] theorem nlV_pnil : nlV (.val (.pointer none)) = .val (.pointer none) := rfl
@[simp] theorem nlV_agg {l : List SV} : nlV (.agg l) = .agg (nlL l) := by simp only [nlV]
@[simp] theorem nlV_tup {l : List SV} : nlV (.tup l) = .tup (nlL l) := by simp only [nlV]
@[simp] theorem nlV_view {k i n : Nat} : nlV (.view k i n) = .view k i n := by simp only [nlV]
@[simp] theorem nlV_ptr {k i n : Nat} : nlV (.ptr k i n) = .ptr k i n := by simp only [nlV]
@[simp] theorem nlV_ro {l : List SV} : nlV (.ro l) = .ro l := by simp only [nlV]
@[simp] theorem nlV_rop {x : SV} {j : Nat} : nlV (.rop x j) = .rop x j := by simp only [nlV]
@[simp] theorem nlV_sen {t g : Nat} : nlV (.sen t g) = .sen t g := by simp only [nlV]
end
end Go.Sv

