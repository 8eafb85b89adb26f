/- Contracts of functions that write what they are handed: told of a small table of entries, used in any table that has these entries at other places. A text of the prover's own; it names no program. -/
import Derived.Test.YtadkomdooleipaaGreatDoorKVf
namespace Go.Sv
open Go Go.RowKit
mutual
/-- entries are called by other numbers -/
def ren (σ : Nat → Nat) : SV → SV
  | .ptr k i j => .ptr (σ k) i j
  | .view k i n => .view (σ k) i n
  | .mp k => .mp (σ k)
  | .agg l => .agg (renL σ l)
  | .tup l => .tup (renL σ l)
  | .ifc t x => .ifc t (ren σ x)
  | .fnv f l r => .fnv f (renL σ l) (renL σ r)
  | .val v => .val v
  | .ro l => .ro l
  | .rop x j => .rop x j
  | .sen t g => .sen t g
  | .any => .any
def renL (σ : Nat → Nat) : List SV → List SV
  | [] => []
  | x :: l => ren σ x :: renL σ l
end
mutual
theorem ren_pure (σ : Nat → Nat) : ∀ x : SV, x.pure = true → ren σ x = x
  | .ptr _ _ _, h => by simp [SV.pure] at h
  | .view _ _ _, h => by simp [SV.pure] at h
  | .mp _, h => by simp [SV.pure] at h
  | .agg l, h => by simp only [ren]; rw [renL_pure σ l (by simpa [SV.pure] using h)]
  | .tup l, h => by simp only [ren]; rw [renL_pure σ l (by simpa [SV.pure] using h)]
  | .ifc _ x, h => by simp only [ren]; rw [ren_pure σ x (by simpa [SV.pure] using h)]
  | .fnv _ l r, h => by
    simp only [SV.pure, Bool.and_eq_true] at h
    simp only [ren]; rw [renL_pure σ l h.1, renL_pure σ r h.2]
  | .val _, _ => rfl
  | .ro _, _ => rfl
  | .rop _ _, _ => rfl
  | .sen _ _, _ => rfl
  | .any, _ => rfl
theorem renL_pure (σ : Nat → Nat) : ∀ l : List SV, SV.pureL l = true → renL σ l = l
  | [], _ => rfl
  | x :: l, h => by
    simp only [SV.pureL, Bool.and_eq_true] at h
    simp only [renL]; rw [ren_pure σ x h.1, renL_pure σ l h.2]
end
mutual
theorem pure_ren (σ : Nat → Nat) : ∀ x : SV, (ren σ x).pure = x.pure
  | .ptr _ _ _ => rfl
  | .view _ _ _ => rfl
  | .mp _ => rfl
  | .agg l => by simp only [ren, SV.pure]; exact pureL_ren σ l
  | .tup l => by simp only [ren, SV.pure]; exact pureL_ren σ l
  | .ifc _ x => by simp only [ren, SV.pure]; exact pure_ren σ x
  | .fnv _ l r => by simp only [ren, SV.pure]; rw [pureL_ren σ l, pureL_ren σ r]
  | .val _ => rfl
  | .ro _ => rfl
  | .rop _ _ => rfl
  | .sen _ _ => rfl
  | .any => rfl
theorem pureL_ren (σ : Nat → Nat) : ∀ l : List SV, SV.pureL (renL σ l) = SV.pureL l
  | [] => rfl
  | x :: l => by simp only [renL, SV.pureL]; rw [pure_ren σ x, pureL_ren σ l]
end
theorem one_ren (σ : Nat → Nat) (x : SV) : (ren σ x).one = x.one := by cases x <;> rfl
section
variable {β : Bnd} {H : Hp} {σ : Nat → Nat}
mutual
theorem ren_den : ∀ {x : SV} {v : Value}, Den β H (ren σ x) v ↔ Den (fun k => β (σ k)) H x v
  | .ptr _ _ _, _ => by simp only [ren, Den]
  | .view _ _ _, _ => by simp only [ren, Den]
  | .mp _, _ => by simp only [ren, Den]
  | .agg l, v => by simp only [ren, Den]; exact exists_congr fun vs => and_congr Iff.rfl renL_den
  | .tup l, v => by simp only [ren, Den]; exact exists_congr fun vs => and_congr Iff.rfl renT_den
  | .ifc _ x, v => by simp only [ren, Den]; exact exists_congr fun u => and_congr Iff.rfl ren_den
  | .fnv _ l r, v => by simp only [ren, Den]; exact exists_congr fun vs => exists_congr fun ws => and_congr Iff.rfl (and_congr renT_den renT_den)
  | .val _, _ => by simp only [ren, Den]
  | .ro _, _ => by simp only [ren, Den]
  | .rop _ _, _ => by simp only [ren, Den]
  | .sen _ _, _ => by simp only [ren, Den]
  | .any, _ => by simp only [ren, Den]
theorem renL_den : ∀ {l : List SV} {vs : List Value}, DenL β H (renL σ l) vs ↔ DenL (fun k => β (σ k)) H l vs
  | [], _ => by simp only [renL, DenL]
  | x :: l, vs => by
    simp only [renL, DenL, one_ren]
    exact exists_congr fun v => exists_congr fun r => and_congr Iff.rfl (and_congr Iff.rfl (and_congr ren_den renL_den))
theorem renT_den : ∀ {l : List SV} {vs : List Value}, DenT β H (renL σ l) vs ↔ DenT (fun k => β (σ k)) H l vs
  | [], _ => by simp only [renL, DenT]
  | x :: l, vs => by
    simp only [renL, DenT]
    exact exists_congr fun v => exists_congr fun r => and_congr Iff.rfl (and_congr ren_den renT_den)
end
theorem renE_den {s : Nat} : ∀ {l : List SV} {vs : List Value}, DenE β H s (renL σ l) vs ↔ DenE (fun k => β (σ k)) H s l vs
  | [], _ => by simp only [renL, DenE]
  | x :: l, vs => by
    simp only [renL, DenE]
    exact exists_congr fun v => exists_congr fun r => and_congr Iff.rfl (and_congr Iff.rfl (and_congr ren_den renE_den))
theorem renK_den : ∀ {l : List SV} {ms : List MapEntry} {n : Nat}, DenK β H (renL σ l) ms n ↔ DenK (fun k => β (σ k)) H l ms n
  | [], _, _ => by simp only [renL, DenK]
  | x :: l, ms, n => by
    simp only [renL, DenK]
    constructor
    · rintro ⟨key, y, m, r, e, h2, h3, h4, h5, h6, h7⟩
      cases x with
      | tup q =>
        simp only [ren, SV.tup.injEq] at e
        match q, e with
        | [a, b], e =>
          simp only [renL, List.cons.injEq, and_true] at e
          obtain ⟨e1, rfl⟩ := e
          cases a <;> simp only [ren, SV.val.injEq, reduceCtorEq] at e1
          subst e1
          exact ⟨_, b, m, r, rfl, h2, h3, h4, h5, ren_den.1 h6, renK_den.1 h7⟩
        | [], e => simp [renL] at e
        | [a], e => simp [renL] at e
        | a :: b :: c :: d, e => simp [renL] at e
      | _ => simp [ren] at e
    · rintro ⟨key, y, m, r, rfl, h2, h3, h4, h5, h6, h7⟩
      exact ⟨key, ren σ y, m, r, by simp only [ren, renL], h2, h3, h4, h5, ren_den.2 h6, renK_den.2 h7⟩
end
def renE (σ : Nat → Nat) (e : Ent) : Ent := ⟨e.sz, renL σ e.es, e.fz⟩
theorem renL_nil {σ : Nat → Nat} {l : List SV} : renL σ l = [] ↔ l = [] := by cases l <;> simp [renL]
theorem EntOK.ren {β : Bnd} {H : Hp} {σ : Nat → Nat} {e : Ent} {k : Nat} {w : World} : EntOK β H (renE σ e) (σ k) w ↔ EntOK (fun i => β (σ i)) H e k w := by
  unfold EntOK renE
  simp only [renE_den, renK_den, pureL_ren, renL_nil]

/-- the small table's numbers in a table of m entries: the first ones are listed, new ones come behind all -/
def sg : List Nat → Nat → Nat → Nat
  | [], m, i => m + i
  | k :: _, _, 0 => k
  | _ :: s, m, i + 1 => sg s m i
/-- the small table's entries put in their places, new ones behind -/
def setA (σ : Nat → Nat) : Tab → List Nat → Tab → Tab
  | M, k :: s, e :: T => setA σ (tset M k (e.map (renE σ))) s T
  | M, _, T => M ++ T.map fun e => e.map (renE σ)
/-- the small table stands in the table -/
def matchT (σ : Nat → Nat) (M : Tab) : List Nat → Tab → Prop
  | k :: s, some e :: T => tget M k = some (renE σ e) ∧ matchT σ M s T
  | [], [] => True
  | _, _ => False
/-- no entry that is not listed names k -/
def nox (s : List Nat) (k : Nat) : Nat → Tab → Bool
  | _, [] => true
  | i, none :: M => nox s k (i + 1) M
  | i, some e :: M => (s.contains i || !SV.usesL k e.es) && nox s k (i + 1) M
def fgts : List Nat → Tab → Tab
  | [], M => M
  | k :: ks, M => fgts ks (fgt k M)

theorem sg_lt {s : List Nat} {m i : Nat} (h : i < s.length) : ∃ k ∈ s, sg s m i = k := by
  induction s generalizing i with
  | nil => simp at h
  | cons a s ih => cases i with
    | zero => exact ⟨a, by simp, rfl⟩
    | succ i =>
      obtain ⟨k, h1, h2⟩ := ih (i := i) (by simpa using h)
      exact ⟨k, by simp [h1], h2⟩
theorem sg_ge {s : List Nat} {m i : Nat} (h : s.length ≤ i) : sg s m i = m + (i - s.length) := by
  induction s generalizing i with
  | nil => simp [sg]
  | cons a s ih => cases i with
    | zero => simp at h
    | succ i => simp only [sg, List.length_cons]; rw [ih (by simpa using h)]; congr 1; omega
theorem sg_mem {s : List Nat} {m k : Nat} (h : k ∈ s) : ∃ i, i < s.length ∧ sg s m i = k := by
  induction s with
  | nil => cases h
  | cons a s ih =>
    rcases List.mem_cons.1 h with rfl | h
    · exact ⟨0, by simp, rfl⟩
    · obtain ⟨i, h1, h2⟩ := ih h
      exact ⟨i + 1, by simpa using h1, h2⟩
theorem sg_inj {s : List Nat} {m : Nat} (hd : s.Nodup) (hm : ∀ k ∈ s, k < m) : ∀ {i j : Nat}, sg s m i = sg s m j → i = j := by
  induction s with
  | nil => intro i j h; simp only [sg] at h; omega
  | cons a s ih =>
    have hd' := List.nodup_cons.1 hd
    have key : ∀ i, sg s m i = a → False := fun i h => by
      rcases Nat.lt_or_ge i s.length with h' | h'
      · obtain ⟨k, h1, h2⟩ := sg_lt (m := m) h'
        rw [h2] at h; subst h; exact hd'.1 h1
      · rw [sg_ge h'] at h; have := hm a (by simp); omega
    intro i j h
    cases i with
    | zero => cases j with
      | zero => rfl
      | succ j => exact (key j h.symm).elim
    | succ i => cases j with
      | zero => exact (key i h).elim
      | succ j => rw [ih hd'.2 (fun k hk => hm k (by simp [hk])) h]

theorem setA_spec {σ : Nat → Nat} : ∀ {s : List Nat} {T M : Tab} {i : Nat} {e' : Ent}, s.length ≤ T.length → (setA σ M s T)[i]? = some (some e') →
    (∃ (k : Nat) (e : Ent), sg s M.length k = i ∧ T[k]? = some (some e) ∧ e' = renE σ e) ∨ ((∀ k, k < T.length → sg s M.length k ≠ i) ∧ M[i]? = some (some e'))
  | [], T, M, i, e', _, h => by
    cases T with
    | nil =>
      simp only [setA, List.map_nil, List.append_nil] at h
      exact .inr ⟨fun k hk => by simp at hk, h⟩
    | cons t T =>
      simp only [setA] at h
      rcases Nat.lt_or_ge i M.length with hi | hi
      · rw [List.getElem?_append_left hi] at h
        exact .inr ⟨fun k _ => by simp only [sg]; omega, h⟩
      · rw [List.getElem?_append_right hi, List.getElem?_map] at h
        left
        cases ht : (t :: T)[i - M.length]? with
        | none => rw [ht] at h; cases h
        | some oe =>
          rw [ht] at h
          cases oe with
          | none => simp at h
          | some e => simp at h; exact ⟨i - M.length, e, by simp only [sg]; omega, ht, h.symm⟩
  | a :: s, [], M, i, e', hl, h => by simp at hl
  | a :: s, t :: T, M, i, e', hl, h => by
    simp only [setA] at h
    rcases setA_spec (s := s) (by simpa using hl) h with ⟨k, e, h1, h2, h3⟩ | ⟨h1, h2⟩
    · rw [tset_len] at h1
      exact .inl ⟨k + 1, e, h1, by simpa using h2, h3⟩
    · rw [tset_len] at h1
      rw [tset_eq] at h2
      rcases getElem?_set_cases h2 with ⟨rfl, he, _⟩ | ⟨hne, hi'⟩
      · cases t with
        | none => simp at he
        | some e => simp at he; exact .inl ⟨0, e, rfl, by simp, he.symm⟩
      · refine .inr ⟨fun k hk => ?_, hi'⟩
        cases k with
        | zero => exact Ne.symm hne
        | succ k => exact h1 k (by simpa using hk)
theorem setA_len {σ : Nat → Nat} : ∀ {s : List Nat} {T M : Tab}, s.length ≤ T.length → (setA σ M s T).length = M.length + (T.length - s.length)
  | [], T, M, _ => by cases T <;> simp [setA]
  | a :: s, [], M, hl => by simp at hl
  | a :: s, t :: T, M, hl => by
    simp only [setA]
    rw [setA_len (by simpa using hl), tset_len]
    simp
theorem matchT_at {σ : Nat → Nat} {M : Tab} : ∀ {s : List Nat} {T : Tab} {m : Nat}, matchT σ M s T → s.length = T.length ∧ ∀ i, i < s.length → ∃ e : Ent, T[i]? = some (some e) ∧ tget M (sg s m i) = some (renE σ e)
  | [], [], _, _ => ⟨rfl, fun i hi => by simp at hi⟩
  | k :: s, some e :: T, m, h => by
    simp only [matchT] at h
    obtain ⟨h1, h2⟩ := matchT_at (m := m) h.2
    refine ⟨by simp [h1], fun i hi => ?_⟩
    cases i with
    | zero => exact ⟨e, rfl, h.1⟩
    | succ i => simpa [sg] using h2 i (by simpa using hi)
  | [], _ :: _, _, h => by simp [matchT] at h
  | _ :: _, [], _, h => by simp [matchT] at h
  | _ :: _, none :: _, _, h => by simp [matchT] at h
theorem nox_at {s : List Nat} {k : Nat} : ∀ {M : Tab} {o i : Nat} {e : Ent}, nox s k o M = true → M[i]? = some (some e) → o + i ∉ s → SV.usesL k e.es = false
  | [], o, i, e, _, h, _ => by simp at h
  | none :: M, o, i, e, h, hi, hs => by
    simp only [nox] at h
    cases i with
    | zero => simp at hi
    | succ i => exact nox_at h (by simpa using hi) (by rw [show o + 1 + i = o + (i + 1) by omega]; exact hs)
  | some e0 :: M, o, i, e, h, hi, hs => by
    simp only [nox, Bool.and_eq_true, Bool.or_eq_true, Bool.not_eq_true', List.contains_iff_mem] at h
    cases i with
    | zero =>
      simp only [List.getElem?_cons_zero, Option.some.injEq] at hi
      subst hi
      exact h.1.resolve_left (by simpa using hs)
    | succ i => exact nox_at h.2 (by simpa using hi) (by rw [show o + 1 + i = o + (i + 1) by omega]; exact hs)
theorem fgt_len (k : Nat) (M : Tab) : (fgt k M).length = M.length := by unfold fgt fgtM; split <;> simp
theorem fgts_len : ∀ (ks : List Nat) (M : Tab), (fgts ks M).length = M.length
  | [], M => rfl
  | k :: ks, M => by simp only [fgts]; rw [fgts_len, fgt_len]
theorem WOK.fgts {C : Ctx} {β : Bnd} {H : Hp} {w : World} : ∀ {ks : List Nat} {M : Tab}, WOK C β H M w → WOK C β H (Sv.fgts ks M) w
  | [], _, h => h
  | k :: ks, M, h => by simp only [Sv.fgts]; exact WOK.fgts (h.fgt k)

/-- what is told of a function that may write the entries that it is handed: called with such arguments in a table T it leaves such a table (and new entries) and returns such a result; the entries of pk may come to stand for other blocks -/
def EffC (P : Program) (f : FuncId) (args : List SV) (T : Tab) (pk : List Nat) (Φ : Tab → SV → Prop) : Prop :=
  ∀ C : Ctx, C.fx = [] → CallJ P C f args T none fun T' pk' x => pk' = pk ∧ ∃ T1 y, Φ T1 y ∧ x = y ∧ leM T' T1 ∧ T.length ≤ T1.length ∧ (T'.length = T1.length ∨ (y.lt T1.length = true ∧ ltM T1.length T1))

section
variable {P : Program} {C : Ctx}
/-- what such a function has to come to -/
def effK (T : Tab) (pk : List Nat) (Φ : Tab → SV → Prop) : Tab → List Nat → SV → Prop := fun T' pk' x => pk' = pk ∧ ∃ T1 y, Φ T1 y ∧ x = y ∧ leM T' T1 ∧ T.length ≤ T1.length ∧ (T'.length = T1.length ∨ (y.lt T1.length = true ∧ ltM T1.length T1))
/-- entries behind the first n are forgotten -/
def cutB (β : Bnd) (n : Nat) : Bnd := fun k => if k < n then β k else none
theorem WOK.weak {β : Bnd} {H : Hp} {M M' : Tab} {w : World} (h : WOK C β H M w) (hle : leM M M') (hj : M.length = M'.length ∨ ltM M'.length M') (hfx : C.fx = []) : WOK C (cutB β M'.length) H M' w := by
  have hget := leM_get hle
  have hlt : ∀ k e, M'[k]? = some (some e) → k < M'.length := fun k e hk => by
    rcases Nat.lt_or_ge k M'.length with h' | h'
    · exact h'
    · rw [List.getElem?_eq_none h'] at hk; cases hk
  have hin : ∀ (k : Nat) (e : Ent), M'[k]? = some (some e) → ∀ j d, SV.usesL j e.es = true → β j = some d → cutB β M'.length j = some d := fun k e hk j d hu hd => by
    have : j < M'.length := by
      rcases hj with hj | hj
      · rcases Nat.lt_or_ge j M'.length with h' | h'
        · exact h'
        · rw [h.fresh j (by omega)] at hd; cases hd
      · rcases Nat.lt_or_ge j M'.length with h' | h'
        · exact h'
        · rw [SV.ltL_uses h' _ (ltM_get hj k e hk)] at hu; cases hu
    simp [cutB, this, hd]
  have hc : ∀ {k d}, k < M'.length → cutB β M'.length k = some d → β k = some d := fun hk hd => by simpa [cutB, hk] using hd
  refine ⟨h.os, h.tape, h.output, h.size, h.frame, h.ext, h.new, h.inv, fun k e hk => ?_, fun k e d hk hd => h.own k e d (hget k e hk) (hc (hlt k e hk) hd),
    fun k k' e e' d d' hk hk' hd hd' => h.inj k k' e e' d d' (hget k e hk) (hget k' e' hk') (hc (hlt k e hk) hd) (hc (hlt k' e' hk') hd'), fun k hk => by simp [cutB]; omega, fun k d hk => (by rw [hfx] at hk; cases hk), h.glob⟩
  have hb : ∀ d, β k = some d → cutB β M'.length k = some d := fun d hd => by simp [cutB, hlt k e hk, hd]
  rcases h.ents k e (hget k e hk) with ⟨g1, g2⟩ | ⟨d, cs, T, vs, g1, g2, g3, g4, g5, g6⟩ | ⟨d, ms, g1, g2, g3, g4⟩
  · exact .inl ⟨hb _ g1, g2⟩
  · exact .inr (.inl ⟨d, cs, T, vs, hb _ g1, g2, g3, g4, DenE.mono (fun _ _ h => h) _ _ _ (hin k e hk) g5, g6⟩)
  · exact .inr (.inr ⟨d, ms, hb _ g1, g2, g3, DenK.mono (fun _ _ h => h) _ _ _ (hin k e hk) g4⟩)

open Classical in
/-- such a contract used in a greater table -/
theorem callT {f : FuncId} {args args0 : List SV} {T M : Tab} {pk : List Nat} {Φ : Tab → SV → Prop} {W : Option (List Nat)} {K : Tab → List Nat → SV → Prop} (h : EffC P f args0 T pk Φ) (s : List Nat) (hd : s.Nodup)
    (hT : matchT (sg s M.length) M s T) (ha : args = renL (sg s M.length) args0) (hpk : ∀ k ∈ pk, k < T.length ∧ sg s M.length k ∉ C.fx ∧ nox s (sg s M.length k) 0 (fgts (pk.map (sg s M.length)) M) = true)
    (hW : ∀ ks, W = some ks → pk = [] ∧ ∀ k ∈ s, k ∈ ks)
    (hK : ∀ T1 y, Φ T1 y → K (setA (sg s M.length) (fgts (pk.map (sg s M.length)) M) s T1) (pk.map (sg s M.length)) (ren (sg s M.length) y)) : CallJ P C f args M W K := by
  intro β H w vals hdv hWM
  have hlen : s.length = T.length := (matchT_at (m := 0) hT).1
  have hσ := (matchT_at (m := M.length) hT).2
  have hsl : ∀ k ∈ s, k < M.length := fun k hk => by
    obtain ⟨i, hi, rfl⟩ := sg_mem (m := M.length) hk
    obtain ⟨e, -, h2⟩ := hσ i hi
    exact (List.getElem?_eq_some_iff.1 (tget_some h2)).1
  have hinj := fun {i j} => sg_inj (s := s) (m := M.length) hd hsl (i := i) (j := j)
  have hσlt : ∀ i, i < s.length → sg s M.length i < M.length := fun i hi => by
    obtain ⟨k, hk, e⟩ := sg_lt (m := M.length) hi
    rw [e]; exact hsl k hk
  have hge : ∀ i, s.length ≤ i → sg s M.length i = M.length + (i - s.length) := fun i hi => sg_ge hi
  generalize hsig : sg s M.length = σ at *
  let β0 : Bnd := fun k => β (σ k)
  have hD : DenT β0 H args0 vals := by rw [ha] at hdv; exact renT_den.1 hdv
  let X : List Nat := (List.range s.length).filterMap fun i => match β0 i with
    | some (some d) => some d.b
    | _ => none
  have hX : ∀ b, b ∈ X ↔ ∃ i d, i < s.length ∧ β (σ i) = some (some d) ∧ d.b = b := fun b => by
    simp only [X, List.mem_filterMap, List.mem_range]
    constructor
    · rintro ⟨i, hi, he⟩
      split at he
      · rename_i d h2; simp only [Option.some.injEq] at he; exact ⟨i, d, hi, h2, he⟩
      · cases he
    · rintro ⟨i, d, hi, hd, rfl⟩
      refine ⟨i, hi, ?_⟩
      have : β0 i = some (some d) := hd
      rw [this]
  have hown : ∀ b, b ∈ X → C.w0.heap.size ≤ b ∨ b ∈ C.X := fun b hb => by
    obtain ⟨i, d, h1, h2, rfl⟩ := (hX b).1 hb
    obtain ⟨e, -, h3⟩ := hσ i h1
    exact (hWM.own (σ i) _ d (tget_some h3) h2).2
  let C0 : Ctx := ⟨w, H, X, β0, []⟩
  have hTlt : ∀ (k : Nat) (e : Ent), T[k]? = some (some e) → k < s.length ∧ tget M (σ k) = some (renE σ e) := fun k e hk => by
    have hk' : k < s.length := by
      have := (List.getElem?_eq_some_iff.1 hk).1
      omega
    obtain ⟨e2, h2, h3⟩ := hσ k hk'
    rw [hk] at h2
    simp only [Option.some.injEq] at h2
    subst h2
    exact ⟨hk', h3⟩
  have hW0 : WOK C0 β0 H T w := ⟨rfl, rfl, rfl, Nat.le_refl _, fun _ _ _ => rfl, fun _ _ h => h, fun _ _ h => .inl h, hWM.inv,
    fun k e hk => EntOK.ren.1 (hWM.ents (σ k) _ (tget_some (hTlt k e hk).2)),
    fun k e d hk hd => ⟨(hWM.own (σ k) (renE σ e) d (tget_some (hTlt k e hk).2) hd).1, .inr ((hX _).2 ⟨k, d, (hTlt k e hk).1, hd, rfl⟩)⟩,
    fun k k' e e' d d' hk hk' hd hd' hb => hinj (hWM.inj (σ k) (σ k') (renE σ e) (renE σ e') d d' (tget_some (hTlt k e hk).2) (tget_some (hTlt k' e' hk').2) hd hd' hb),
    fun k hk => hWM.fresh _ (by rw [hge k (by omega)]; omega), fun k d hk => (by cases hk), hWM.glob⟩
  refine Calls.mono (h C0 rfl β0 H w vals hD hW0) ?_
  rintro e w1 ⟨β1, H1, T', v, x, pk', rfl, g1, g2, g3, g4, ⟨rfl, T1, y, hΦ, rfl, hle, hlenT, hj⟩, g6, -⟩
  have hj' : T'.length = T1.length ∨ ltM T1.length T1 := hj.imp id And.right
  have g2w : WOK C0 (cutB β1 T1.length) H1 T1 w1 := g2.weak hle hj' rfl
  have hw0 := hWM.fgts (ks := pk'.map σ)
  have hcut : ∀ {k d}, k < s.length → β1 k = some d → cutB β1 T1.length k = some d := fun {k d} hk hd => by
    have : k < T1.length := by omega
    simp [cutB, this, hd]
  have g1w : Den (cutB β1 T1.length) H1 x v := by
    refine Den.mono (fun _ _ h => h) x v (fun k d hu hd => ?_) g1
    have : k < T1.length := by
      rcases hj with hj | ⟨hj, -⟩
      · rcases Nat.lt_or_ge k T1.length with h' | h'
        · exact h'
        · rw [g2.fresh k (by omega)] at hd; cases hd
      · rcases Nat.lt_or_ge k T1.length with h' | h'
        · exact h'
        · rw [SV.lt_uses h' x hj] at hu; cases hu
    simp [cutB, this, hd]
  let β' : Bnd := fun i => if hx : ∃ k, σ k = i then cutB β1 T1.length (Classical.choose hx) else β i
  have hβσ : ∀ k, β' (σ k) = cutB β1 T1.length k := fun k => by
    have hx : ∃ k', σ k' = σ k := ⟨k, rfl⟩
    show (if hx : ∃ k', σ k' = σ k then cutB β1 T1.length (Classical.choose hx) else β (σ k)) = _
    rw [dif_pos hx]
    rw [hinj (Classical.choose_spec hx)]
  have hβo : ∀ i, (∀ k, σ k ≠ i) → β' i = β i := fun i hi => by
    show (if hx : ∃ k', σ k' = i then cutB β1 T1.length (Classical.choose hx) else β i) = _
    rw [dif_neg (fun ⟨k, hk⟩ => hi k hk)]
  have hβfun : (fun k => β' (σ k)) = cutB β1 T1.length := funext hβσ
  have hmono : ∀ i d, i ∉ pk'.map σ → β i = some d → β' i = some d := fun i d hi hd => by
    by_cases hx : ∃ k, σ k = i
    · obtain ⟨k, rfl⟩ := hx
      rw [hβσ]
      have hks : k < s.length := by
        rcases Nat.lt_or_ge k s.length with h' | h'
        · exact h'
        · rw [hWM.fresh _ (by rw [hge k h']; omega)] at hd; cases hd
      exact hcut hks (g3 k d (fun hp => hi (List.mem_map.2 ⟨k, hp, rfl⟩)) hd)
    · rw [hβo i fun k hk => hx ⟨k, hk⟩]; exact hd
  have hout : ∀ i, (∀ k, k < T1.length → σ k ≠ i) → i < M.length → ∀ k, σ k ≠ i := fun i hi hil k hk => by
    rcases Nat.lt_or_ge k T1.length with h' | h'
    · exact hi k h' hk
    · rw [hge k (by omega)] at hk; omega
  have hheap : ∀ b, b < w.heap.size → b ∉ X → w1.heap[b]? = w.heap[b]? := fun b hb hx => g2.frame b hb hx
  have hM0 : (fgts (pk'.map σ) M).length = M.length := fgts_len _ _
  have hspec : ∀ (i : Nat) (e' : Ent), (setA σ (fgts (pk'.map σ) M) s T1)[i]? = some (some e') →
      (∃ (k : Nat) (e : Ent), σ k = i ∧ T1[k]? = some (some e) ∧ e' = renE σ e) ∨ ((∀ k, σ k ≠ i) ∧ i < M.length ∧ (fgts (pk'.map σ) M)[i]? = some (some e')) := fun i e' hi => by
    rcases setA_spec (by omega) hi with h1 | ⟨h1, h2⟩
    · rw [hM0, hsig] at h1; exact .inl h1
    · rw [hM0, hsig] at h1
      have hil : i < M.length := by rw [← hM0]; exact (List.getElem?_eq_some_iff.1 h2).1
      exact .inr ⟨hout i h1 hil, hil, h2⟩
  have hnX : ∀ (i : Nat) (e' : Ent) (d : Bd), (∀ k, σ k ≠ i) → (fgts (pk'.map σ) M)[i]? = some (some e') → β i = some (some d) → d.b ∉ X := fun i e' d hi he hd' hb => by
    obtain ⟨k, d2, h1, h2, h3⟩ := (hX _).1 hb
    obtain ⟨e2, -, h4⟩ := hσ k h1
    have hi1 : ∃ e0 : Ent, (fgts (pk'.map σ) M)[σ k]? = some (some e0) := by
      have aux : ∀ (ks : List Nat) (M : Tab) (q : Nat), (∃ e0 : Ent, M[q]? = some (some e0)) → ∃ e0 : Ent, (fgts ks M)[q]? = some (some e0) := fun ks => by
        induction ks with
        | nil => intro M q h; exact h
        | cons a ks ih =>
          rintro M q ⟨e0, h⟩
          refine ih _ _ ?_
          unfold fgt
          split
          · exact ⟨e0, h⟩
          · simp only [fgtM, List.getElem?_map, h]
            exact ⟨_, rfl⟩
      exact aux _ _ _ ⟨_, tget_some h4⟩
    obtain ⟨e0, hi1⟩ := hi1
    exact hi k (hw0.inj (σ k) i e0 e' d2 d hi1 he h2 hd' h3)
  refine ⟨β', H1, setA σ (fgts (pk'.map σ) M) s T1, v, ren σ x, pk'.map σ, rfl, ren_den.2 (by rw [hβfun]; exact g1w), ?_, hmono, g4, hK T1 x hΦ, g6, fun ks hks => ?_⟩
  · refine ⟨g2.os.trans hWM.os, g2.tape.trans hWM.tape, g2.output.trans hWM.output, Nat.le_trans hWM.size g6, fun b hb hx => ?_, fun b cs hb => g4 b cs (hWM.ext b cs hb), fun b cs hb => ?_, g2.inv, fun i e' hi => ?_, fun i e' d hi hd' => ?_, fun i i' e1 e2 d1 d2 hi hi' hd1 hd2 hb => ?_, fun i hi => ?_, fun i d hi hd' => ?_, g2.glob⟩
    · rw [hheap b (Nat.lt_of_lt_of_le hb hWM.size) (fun hbX => by rcases hown b hbX with h' | h'; omega; exact hx h')]
      exact hWM.frame b hb hx
    · rcases g2.new b cs hb with h' | h' | h'
      · exact hWM.new b cs h'
      · exact .inr (.inl (Nat.le_trans hWM.size h'))
      · exact .inr (hown b h')
    · rcases hspec i e' hi with ⟨k, e0, rfl, h2, rfl⟩ | ⟨h1, hil, h2⟩
      · refine EntOK.ren.2 ?_
        rw [hβfun]
        exact g2w.ents k e0 h2
      · have hbi : ∀ d, β i = some d → β' i = some d := fun d hd' => by rw [hβo i h1]; exact hd'
        have hus : ∀ j d, SV.usesL j e'.es = true → β j = some d → β' j = some d := fun j d hu hd' => by
          refine hmono j d (fun hp => ?_) hd'
          obtain ⟨k, hk, rfl⟩ := List.mem_map.1 hp
          have := nox_at (hpk k hk).2.2 h2 (by
            rw [Nat.zero_add]
            intro hs
            obtain ⟨q, -, e⟩ := sg_mem (m := M.length) hs
            rw [hsig] at e
            exact h1 q e)
          rw [this] at hu; cases hu
        have hhp : ∀ d, β i = some (some d) → w1.heap[d.b]? = w.heap[d.b]? := fun d hd' => hheap _ (hw0.lt h2 hd') (hnX i e' d h1 h2 hd')
        rcases hw0.ents i e' h2 with ⟨q1, q2⟩ | ⟨d, cs, Tt, vs, q1, q2, q3, q4, q5, q6, q7, q8⟩ | ⟨d, ms, q1, q2, q3, q4⟩
        · exact .inl ⟨hbi _ q1, q2⟩
        · exact .inr (.inl ⟨d, cs, Tt, vs, hbi _ q1, q2, by rw [hhp d q1]; exact q3, q4, DenE.mono g4 _ _ _ hus q5, q6, q7, fun hf => ⟨g4 _ _ (q8 hf).1, (q8 hf).2⟩⟩)
        · exact .inr (.inr ⟨d, ms, hbi _ q1, q2, by rw [hhp d q1]; exact q3, DenK.mono g4 _ _ _ hus q4⟩)
    · rcases hspec i e' hi with ⟨k, e0, rfl, h2, rfl⟩ | ⟨h1, hil, h2⟩
      · rw [hβσ] at hd'
        obtain ⟨q1, q2⟩ := g2w.own k e0 d h2 hd'
        refine ⟨q1, ?_⟩
        rcases q2 with h' | h'
        · exact .inl (Nat.le_trans hWM.size h')
        · exact hown _ h'
      · rw [hβo i h1] at hd'
        obtain ⟨q1, q2⟩ := hw0.own i e' d h2 hd'
        refine ⟨fun hf => ?_, q2⟩
        cases hH : H1 d.b with
        | none => rfl
        | some cs =>
          rcases g2.new _ _ hH with h' | h' | h'
          · have h'' : H d.b = some cs := h'
            rw [q1 hf] at h''; cases h''
          · have hlt := hw0.lt h2 hd'
            have h'' : w.heap.size ≤ d.b := h'
            omega
          · exact absurd h' (hnX i e' d h1 h2 hd')
    · rcases hspec i e1 hi with ⟨k, e0, rfl, h2, rfl⟩ | ⟨h1, hil, h2⟩ <;> rcases hspec i' e2 hi' with ⟨k', e0', rfl, h2', rfl⟩ | ⟨h1', hil', h2'⟩
      · rw [hβσ] at hd1 hd2
        rw [g2w.inj k k' e0 e0' d1 d2 h2 h2' hd1 hd2 hb]
      · rw [hβσ] at hd1
        rw [hβo i' h1'] at hd2
        exfalso
        rcases (g2w.own k e0 d1 h2 hd1).2 with h' | h'
        · have hlt := hw0.lt h2' hd2
          have h'' : w.heap.size ≤ d1.b := h'
          omega
        · rw [hb] at h'; exact hnX i' e2 d2 h1' h2' hd2 h'
      · rw [hβσ] at hd2
        rw [hβo i h1] at hd1
        exfalso
        rcases (g2w.own k' e0' d2 h2' hd2).2 with h' | h'
        · have hlt := hw0.lt h2 hd1
          have h'' : w.heap.size ≤ d2.b := h'
          omega
        · rw [← hb] at h'; exact hnX i e1 d1 h1 h2 hd1 h'
      · rw [hβo i h1] at hd1
        rw [hβo i' h1'] at hd2
        exact hw0.inj i i' e1 e2 d1 d2 h2 h2' hd1 hd2 hb
    · rw [setA_len (by omega), hM0] at hi
      have e : σ (s.length + (i - M.length)) = i := by rw [hge _ (by omega)]; omega
      have hT1 : ¬ s.length + (i - M.length) < T1.length := by omega
      rw [← e, hβσ]
      simp [cutB, hT1]
    · refine hmono i d (fun hp => ?_) (hWM.keep i d hi hd')
      obtain ⟨k, hk, rfl⟩ := List.mem_map.1 hp
      exact (hpk k hk).2.1 hi
  · obtain ⟨q1, q2⟩ := hW ks hks
    subst q1
    refine ⟨rfl, fun b hb hn => hheap b hb fun hbX => ?_⟩
    obtain ⟨k, d, h1, h2, h3⟩ := (hX _).1 hbX
    obtain ⟨q, hq, e⟩ := sg_lt (m := M.length) h1
    rw [hsig] at e
    exact hn (σ k) (by rw [e]; exact q2 q hq) d h2 h3.symm
end
@[simp] theorem wkQ_panic {C : Ctx} {Q : Post} {c : List PanicEntry} {st : St} : wkQ C Q (.panic c) st = ∃ st', Le C st st' ∧ Q (.panic c) st' := rfl
def isP (x : SV) : Prop := x.pure = true
@[simp] theorem isP_eq (x : SV) : isP x = (x.pure = true) := propext Iff.rfl
def isPL (x : List SV) : Prop := SV.pureL x = true
@[simp] theorem isPL_eq (x : List SV) : isPL x = (SV.pureL x = true) := propext Iff.rfl
@[simp] theorem ren_same {σ : Nat → Nat} {x : SV} (h : isP x) : ren σ x = x := ren_pure σ x h
@[simp] theorem renL_same {σ : Nat → Nat} {l : List SV} (h : isPL l) : renL σ l = l := renL_pure σ l h
@[simp] theorem sbV_same {k : Nat} {es : List SV} {x : SV} (h : isP x) : sbV k es x = x := sbV_pure k es x h
@[simp] theorem sbL_same {k : Nat} {es : List SV} {l : List SV} (h : isPL l) : sbL k es l = l := sbL_pure k es l h
@[simp] theorem sbL_two {k : Nat} {es a b : List SV} : sbL k es (a ++ b) = sbL k es a ++ sbL k es b := by
  induction a with
  | nil => simp
  | cons x a ih => simp [ih]
@[simp] theorem sbV_fnv {k : Nat} {es l r : List SV} {f : FuncId} : sbV k es (.fnv f l r) = .fnv f (sbL k es l) (sbL k es r) := by simp only [sbV]
@[simp] theorem take_ml {α : Type} (f : α → SV) (l : List α) : List.take l.length (l.map f) = l.map f := List.take_of_length_le (by simp)
@[simp] theorem ren_ptr {σ : Nat → Nat} {k i j : Nat} : ren σ (.ptr k i j) = .ptr (σ k) i j := by simp only [ren]
@[simp] theorem ren_view {σ : Nat → Nat} {k i n : Nat} : ren σ (.view k i n) = .view (σ k) i n := by simp only [ren]
@[simp] theorem ren_mp {σ : Nat → Nat} {k : Nat} : ren σ (.mp k) = .mp (σ k) := by simp only [ren]
@[simp] theorem ren_agg {σ : Nat → Nat} {l : List SV} : ren σ (.agg l) = .agg (renL σ l) := by simp only [ren]
@[simp] theorem ren_tup {σ : Nat → Nat} {l : List SV} : ren σ (.tup l) = .tup (renL σ l) := by simp only [ren]
@[simp] theorem ren_ifc {σ : Nat → Nat} {t : TypeId} {x : SV} : ren σ (.ifc t x) = .ifc t (ren σ x) := by simp only [ren]
@[simp] theorem ren_fnv {σ : Nat → Nat} {f : FuncId} {l r : List SV} : ren σ (.fnv f l r) = .fnv f (renL σ l) (renL σ r) := by simp only [ren]
@[simp] theorem ren_val {σ : Nat → Nat} {v : Value} : ren σ (.val v) = .val v := by simp only [ren]
@[simp] theorem ren_ro {σ : Nat → Nat} {l : List SV} : ren σ (.ro l) = .ro l := by simp only [ren]
@[simp] theorem ren_rop {σ : Nat → Nat} {x : SV} {j : Nat} : ren σ (.rop x j) = .rop x j := by simp only [ren]
@[simp] theorem ren_sen {σ : Nat → Nat} {t g : Nat} : ren σ (.sen t g) = .sen t g := by simp only [ren]
@[simp] theorem ren_any {σ : Nat → Nat} : ren σ .any = .any := by simp only [ren]
@[simp] theorem renL_nil' {σ : Nat → Nat} : renL σ [] = [] := by simp only [renL]
@[simp] theorem renL_cons {σ : Nat → Nat} {x : SV} {l : List SV} : renL σ (x :: l) = ren σ x :: renL σ l := by simp only [renL]
@[simp] theorem renL_app {σ : Nat → Nat} {a b : List SV} : renL σ (a ++ b) = renL σ a ++ renL σ b := by
  induction a with
  | nil => simp
  | cons x a ih => simp [ih]
@[simp] theorem renE_eq {σ : Nat → Nat} {s : Nat} {l : List SV} {f : Bool} : renE σ ⟨s, l, f⟩ = ⟨s, renL σ l, f⟩ := rfl
@[simp] theorem sg_nil {m i : Nat} : sg [] m i = m + i := rfl
@[simp] theorem sg_zero {k m : Nat} {s : List Nat} : sg (k :: s) m 0 = k := rfl
@[simp] theorem sg_succ {k m i : Nat} {s : List Nat} : sg (k :: s) m (i + 1) = sg s m i := rfl
@[simp] theorem setA_cons {σ : Nat → Nat} {M T : Tab} {k : Nat} {s : List Nat} {e : Option Ent} : setA σ M (k :: s) (e :: T) = setA σ (tset M k (e.map (renE σ))) s T := rfl
@[simp] theorem setA_end {σ : Nat → Nat} {M T : Tab} : setA σ M [] T = M ++ T.map fun e => e.map (renE σ) := by cases T <;> rfl
@[simp] theorem matchT_cons {σ : Nat → Nat} {M T : Tab} {k : Nat} {s : List Nat} {e : Ent} : matchT σ M (k :: s) (some e :: T) = (tget M k = some (renE σ e) ∧ matchT σ M s T) := rfl
@[simp] theorem matchT_nil {σ : Nat → Nat} {M : Tab} : matchT σ M [] [] = True := rfl
@[simp] theorem nox_nil {s : List Nat} {k i : Nat} : nox s k i [] = true := rfl
@[simp] theorem nox_none {s : List Nat} {k i : Nat} {M : Tab} : nox s k i (none :: M) = nox s k (i + 1) M := rfl
@[simp] theorem nox_some {s : List Nat} {k i : Nat} {e : Ent} {M : Tab} : nox s k i (some e :: M) = ((s.contains i || !SV.usesL k e.es) && nox s k (i + 1) M) := rfl
@[simp] theorem fgts_nil {M : Tab} : fgts [] M = M := rfl
@[simp] theorem fgts_cons {k : Nat} {ks : List Nat} {M : Tab} : fgts (k :: ks) M = fgts ks (fgt k M) := rfl
@[simp] theorem effK_app {T T' : Tab} {pk pk' : List Nat} {Φ : Tab → SV → Prop} {x : SV} : effK T pk Φ T' pk' x = (pk' = pk ∧ ∃ T1 y, Φ T1 y ∧ x = y ∧ leM T' T1 ∧ T.length ≤ T1.length ∧ (T'.length = T1.length ∨ (y.lt T1.length = true ∧ ltM T1.length T1))) := rfl
end Go.Sv

