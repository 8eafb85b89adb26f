/- Values that all differ: the document's way of matching. A text of the prover's own. -/
import Derived.Test.YtadkomdooleipaaDoorMAt
namespace Go.Fn
open Go Go.Sv Go.Pl Go.Proofs Go.Tb Go.Ut
theorem lset_bov (m : List Bool) (j : Nat) (x : Bool) : lset (m.map bov) j (.val (.bool x)) = (m.set j x).map bov := by
  rw [lset_eq, List.map_set]; rfl
/-- how many values were not seen -/
def unS (V S : List Int) : Nat := (V.filter fun w => !decide (w ∈ S)).length
theorem unS_le {V S S' : List Int} (h : ∀ w ∈ S, w ∈ S') : unS V S' ≤ unS V S := by
  unfold unS
  induction V with
  | nil => simp
  | cons a V ih =>
    rw [List.filter_cons, List.filter_cons]
    by_cases h1 : a ∈ S
    · simp [h1, h a h1]; exact ih
    · by_cases h2 : a ∈ S'
      · simp [h1, h2]; omega
      · simp [h1, h2]; exact ih
theorem unS_lt {V S : List Int} {v : Int} (hv : v ∈ V) (hs : v ∉ S) : unS V (v :: S) < unS V S := by
  unfold unS
  induction V with
  | nil => simp at hv
  | cons a V ih =>
    have le := unS_le (V := V) (S := S) (S' := v :: S) fun w hw => by simp [hw]
    unfold unS at le
    rw [List.filter_cons, List.filter_cons]
    by_cases e : a = v
    · subst e; simp [hs]; simp at le; omega
    · have hv' : v ∈ V := by
        rcases List.mem_cons.1 hv with q | q
        · exact absurd q.symm e
        · exact q
      have := ih hv'
      by_cases h1 : a ∈ S
      · simp [h1] at this ⊢; exact this
      · simp [h1, e] at this ⊢; exact this
/-- the owners as the document writes them -/
structure OwD (V ow : List Int) (o : Ow) : Prop where
  len : ow.length = V.length
  at' : ∀ j, j < V.length → o (gt V j) = if gt ow j < 0 then none else some (gt ow j).toNat
  out : ∀ w, w ∉ V → o w = none
structure SeD (V : List Int) (se : List Bool) (S : List Int) : Prop where
  len : se.length = V.length
  at' : ∀ j, j < V.length → (gt se j = true ↔ gt V j ∈ S)
theorem gt_inj {V : List Int} (h : V.Nodup) {i j : Nat} (hi : i < V.length) (hj : j < V.length) (e : gt V i = gt V j) : i = j := by
  have := List.pairwise_iff_getElem.1 h
  rcases Nat.lt_trichotomy i j with q | q | q
  · exact absurd (by rw [gt_get hi, gt_get hj]; exact e) (this i j hi hj q)
  · exact q
  · exact absurd (by rw [gt_get hi, gt_get hj]; exact e.symm) (this j i hj hi q)
theorem OwD.up {V ow : List Int} {o : Ow} (h : OwD V ow o) (hV : V.Nodup) {k : Nat} (hk : k < V.length) (i : Nat) : OwD V (ow.set k i) (up o (gt V k) i) where
  len := by rw [List.length_set]; exact h.len
  at' := fun j hj => by
    rw [gt_set (by rw [h.len]; exact hj)]
    by_cases e : k = j
    · subst e; rw [if_pos rfl, up_same, if_neg (by omega)]; rfl
    · rw [if_neg e, up_other (fun q => e (gt_inj hV hj hk q).symm)]; exact h.at' j hj
  out := fun w hw => by rw [up_other (fun q => hw (by rw [q]; exact gt_mem hk))]; exact h.out w hw
theorem SeD.set {V : List Int} {se : List Bool} {S : List Int} (h : SeD V se S) (hV : V.Nodup) {k : Nat} (hk : k < V.length) : SeD V (se.set k true) (gt V k :: S) where
  len := by rw [List.length_set]; exact h.len
  at' := fun j hj => by
    rw [gt_set (by rw [h.len]; exact hj)]
    by_cases e : k = j
    · subst e; simp
    · rw [if_neg e, h.at' j hj, List.mem_cons]
      exact ⟨.inr, fun q => q.resolve_left fun q => e (gt_inj hV hj hk q).symm⟩
/-- what matching comes to -/
def MatQ (V : List Int) (Lp : Nat → List Int) (S : List Int) (i : Nat) (o : Ow) (ow : List Int) (T : Tab) (y : SV) : Prop :=
  ∃ (se : List Bool) (ow' : List Int) (b : Bool), T = [some ⟨1, se.map bov, false⟩] ∧ y = .tup [.ro (ow'.map iv), .val (.bool b)] ∧ se.length = V.length ∧
    (b = true → ∃ o', OwD V ow' o' ∧ Suc V Lp S i o o') ∧ (b = false → ow' = ow ∧ ∃ S', SeD V se S' ∧ Clo Lp o S S' i)
/-- what is known while the values are gone through -/
def MatI (V : List Int) (Lp : Nat → List Int) (o : Ow) (S lp : List Int) (k : Nat) (se : List Bool) : Prop := ∃ S', SeD V se S' ∧ Prt Lp o S S' (fun w => w ∈ lp ∧ w ∈ V.take k)
end Go.Fn
namespace Go.Sv
open Go
@[simp] theorem wkQ_retH {P : Program} {C : Ctx} {rs : List ResultVar} {pk : List Nat} {k : Tab → List Nat → SV → Prop} {c : List PanicEntry} {st : St} : wkQ C (retH P rs pk k) (.panic c) st = False := eq_false fun ⟨_, _, h⟩ => h
end Go.Sv
namespace Go.Proofs
open Go.Sv Go Go.Tb Go.Pl Go.Ut Go.Fn
set_option maxRecDepth 10000 in
set_option maxHeartbeats 2000000 in
theorem rMatch_ok {n : Nat} {c : Con} (hc : ConOK n c) {L : Lf} (hL : LOK n L) (at' : Nat) (hat : at' < c.vars.length) (v : Int) (V : List Int) (hV : V.Nodup) (hVl : V.length ≤ 1000) (hU : ∀ x, ∀ w ∈ PartM c L at' v x, w ∈ V) :
    ∀ (m : Nat) (i : Nat) (hi : i < c.vars.length) (ow : List Int) (o : Ow) (se : List Bool) (S : List Int), OwD V ow o → (∀ w x, o w = some x → x < c.vars.length) → SeD V se S → unS V S < m →
      EffC Tryd.prog 62 [conV c, .ro (L.map ilv), iv at', iv v, iv i, .ro (V.map iv), .ro (ow.map iv), .view 0 0 V.length] [some ⟨1, se.map bov, false⟩] [] (MatQ V (PartM c L at' v) S i o ow) := by
  intro m
  induction m with
  | zero => intro i hi ow o se S _ _ _ h; omega
  | succ m ih =>
  intro i hi ow o se S hO hlt hS hm
  have h8 := hc.vl
  obtain ⟨d1, d2, d3, d4, d5, d6⟩ := hL.at hc hi
  have vi := lget_iv (l := c.vars) hi
  have hp : PartM c L at' v i = if i = at' then [v] else lk c L i := by unfold PartM; rw [if_pos hi]
  refine eff_enterC Tryd.func62 rfl (by simp) (fun C hC => ?_)
  have hC : C.fx = [0] := hC
  refine CodeJ.wk ?_
  refine CodeJ.seqI (CodeJ.regionI (OpsJ.go ?_))
  simp
  refine CodeJ.frz 1 rfl (by simp) ?_
  simp [frzS, tset]
  refine CodeJ.go ?_
  simp (disch := omega) [vi, hi, d1, d5]
  repeat (refine And.intro (by omega) ?_)
  obtain ⟨lp, hlp⟩ : ∃ lp, PartM c L at' v i = lp := ⟨_, rfl⟩
  have lpl : lp.length ≤ 12 := by
    rw [← hlp, hp]; split
    · simp
    · exact d2
  have hVin : ∀ w ∈ lp, w ∈ V := fun w hw => hU i w (hlp ▸ hw)
  have ll := hO.len
  have cases_ : ((i : Int) = at' ∧ lp = [v]) ∨ (¬ (i : Int) = at' ∧ lp = lk c L i) := by
    by_cases ia : (i : Int) = at'
    · exact .inl ⟨ia, by rw [← hlp, hp, if_pos (by omega)]⟩
    · exact .inr ⟨ia, by rw [← hlp, hp, if_neg (by omega)]⟩
  rcases cases_ with ⟨ia, hp'⟩ | ⟨ia, hp'⟩
  · refine ⟨fun _ => ?_, fun q => absurd ia q⟩
    refine CodeJ.frz 2 rfl (by simp) ?_
    simp [frzS, tset]
    refine CodeJ.loopL (ι := Nat × List Bool) (fun ⟨k, se'⟩ => ⟨93, [(1, .ro (L.map ilv)), (2, iv at'), (3, iv v), (4, iv i), (5, .ro (V.map iv)), (6, .ro (ow.map iv)), (7, .view 0 0 V.length), (8, .rop (conV c) 0), (18, ilv lp), (19, iv k)], [some ⟨1, se'.map bov, false⟩]⟩)
      (fun ⟨k, se'⟩ => k ≤ V.length ∧ MatI V (PartM c L at' v) o S lp k se') (fun ⟨k, se'⟩ => V.length - k) (0, se) ?_ ?_ ?_
    · exact ⟨by omega, S, hS, prt_0 fun w h => by simp at h⟩
    · rw [hp']; simp [leS, hC]
    rintro ⟨k, se'⟩ ⟨hk, S', hS', hP⟩
    by_cases hkl : k < V.length
    · have lV := lget_iv hkl
      have lw := lget_iv (l := ow) (i := k) (by omega)
      have lsl := hS'.len
      have lse := lget_bov (l := se') (i := k) (by omega)
      have ow_at := hO.at' k hkl
      have se_at := hS'.at' k hkl
      have hm := gt_mem hkl
      have tk : ∀ w, w ∈ V.take (k + 1) → w ∈ V.take k ∨ w = gt V k := fun w hw => by
        rw [take_gt hkl, List.mem_append] at hw; simpa using hw
      have g := rIn_ok lp (by omega) (gt V k)
      have skip : (gt V k ∈ lp → gt V k ∈ S') → Prt (PartM c L at' v) o S S' (fun w => w ∈ lp ∧ w ∈ V.take (k + 1)) := fun h => hP.skip fun w ⟨h1, h2⟩ => by
        rcases tk w h2 with q | q
        · exact .inl ⟨h1, q⟩
        · subst q; exact .inr (h h1)
      have sset := hS'.set hV hkl
      have oup := hO.up hV hkl i
      generalize hwk : gt V k = w at *
      simp (disch := omega) [hkl, lV]
      repeat (refine And.intro (by omega) ?_)
      refine callS (g) (by simp) ?_
      simp
      by_cases hw : w ∈ lp
      · by_cases hs : gt se' k = true
        · simp [hw, hs, lse, lsl, hkl]
          exact ⟨k + 1, se', ⟨by omega, S', hS', skip fun _ => se_at.1 hs⟩, by omega, Le.syn (by simp (disch := omega) [leS, hC, w64])⟩
        · have hs' : gt se' k = false := by simpa using hs
          have wS' : w ∉ S' := fun q => hs (se_at.2 q)
          have wS : w ∉ S := fun q => wS' (hP.sub w q)
          have wL : w ∈ PartM c L at' v i := by rw [hlp]; exact hw
          have wV : w ∈ V := hm
          by_cases hn : gt ow k < 0
          · rw [if_pos hn] at ow_at
            obtain ⟨ow2, e2⟩ : ∃ ow2, ow.set k (i : Int) = ow2 := ⟨_, rfl⟩
            obtain ⟨se2, e3⟩ : ∃ se2, se'.set k true = se2 := ⟨_, rfl⟩
            rw [e2] at oup
            rw [e3] at sset
            have l2 := oup.len
            have l3 := sset.len
            simp [hw, hs', lse, lsl, hkl, lset_bov, lset_iv, lw, hn, ll, e2, e3, -List.map_set]
            refine ⟨by omega, _, Le.frz 1 rfl (by simp), ?_⟩
            have tk2 : List.take V.length (List.map iv ow2) = List.map iv ow2 := List.take_of_length_le (by simp; omega)
            simp [frzS, tset, l2, tk2]
            exact ⟨_, _, ⟨se2, ow2, true, rfl, rfl, l3, fun _ => ⟨_, oup, suc_base hV wV wL wS ow_at⟩, fun h => by cases h⟩, by simp, by simp [leM], by simp, .inr ⟨by simp, by simp [ltM]⟩⟩
          · rw [if_neg hn] at ow_at
            obtain ⟨x0, hx0⟩ : ∃ x0 : Nat, gt ow k = (x0 : Int) := ⟨(gt ow k).toNat, by omega⟩
            rw [hx0] at ow_at lw
            have ow_at : o w = some x0 := by rw [ow_at]; rfl
            have hx0' : ¬ (x0 : Int) < 0 := by omega
            obtain ⟨se3, e3⟩ : ∃ se3, se'.set k true = se3 := ⟨_, rfl⟩
            rw [e3] at sset
            simp [hw, hs', lse, lsl, hkl, lset_bov, lw, hx0, hx0', ll, e3, -List.map_set]
            refine CodeJ.draw (.qs [0, 1, 2, 3, 4, 5, 6, 7, 8, 9, 10] <| .l 11 [0] <| .qs [12, 13, 14, 15, 16] <| .nil) (by kernel_rfl) (by kernel_rfl) (by simp) ?_
            have us := unS_lt wV wS'
            have us2 := unS_le (V := V) hP.sub
            have gr := ih x0 (hlt w x0 ow_at) ow o se3 (w :: S') hO hlt sset (by omega)
            simp [lw, hkl, ll]
            refine callT gr [0] (by simp) (by simp) (by simp) (by simp) (by simp) ?_
            rintro T y ⟨se2, ow2, b, rfl, rfl, l2, h1, h2⟩
            cases b with
            | true =>
              obtain ⟨o2, h3, h4⟩ := h1 rfl
              have oup2 := h3.up hV hkl i
              rw [hwk] at oup2
              have l4 := h3.len
              have lw2 := lget_iv (l := ow2) (i := k) (by omega)
              obtain ⟨ow4, e4⟩ : ∃ ow4, ow2.set k (i : Int) = ow4 := ⟨_, rfl⟩
              rw [e4] at oup2
              have l5 := oup2.len
              simp [lw2, l4, hkl, lset_iv, e4, -List.map_set]
              refine ⟨by omega, _, Le.frz 1 rfl (by simp), ?_⟩
              have tk2 : List.take V.length (List.map iv ow4) = List.map iv ow4 := List.take_of_length_le (by simp; omega)
              simp [frzS, tset, l5, tk2]
              exact ⟨_, _, ⟨se2, ow4, true, rfl, rfl, l2, fun _ => ⟨_, oup2, suc_step hV wV wL wS ow_at (h4.less fun w' hw' => by
                rcases List.mem_cons.1 hw' with q | q
                · simp [q]
                · simp [hP.sub w' q])⟩, fun h => by cases h⟩, by simp, by simp [leM], by simp, .inr ⟨by simp, by simp [ltM]⟩⟩
            | false =>
              obtain ⟨rfl, S2, h3, h4⟩ := h2 rfl
              simp
              exact ⟨k + 1, se2, ⟨by omega, S2, h3, hP.step ow_at h4 fun w' ⟨q1, q2⟩ => (tk w' q2).imp (fun q => ⟨q1, q⟩) id⟩, by omega, Le.syn (by simp (disch := omega) [leS, hC, w64])⟩
      · simp [hw]
        exact ⟨k + 1, se', ⟨by omega, S', hS', skip fun q => absurd q hw⟩, by omega, Le.syn (by simp (disch := omega) [leS, hC, w64])⟩
    · obtain rfl : k = V.length := by omega
      simp
      refine ⟨_, Le.refl _ _, ?_⟩
      simp
      exact ⟨_, _, ⟨se', ow, false, rfl, rfl, hS'.len, fun h => (by cases h), fun _ => ⟨rfl, S', hS', hP.done fun w hw => ⟨hlp ▸ hw, by rw [List.take_length]; exact hVin w (hlp ▸ hw)⟩⟩⟩, by simp, by simp [leM], by simp, .inl rfl⟩
  · refine ⟨fun q => absurd q ia, fun _ => ?_⟩
    refine CodeJ.loopL (ι := Nat × List Bool) (fun ⟨k, se'⟩ => ⟨93, [(1, .ro (L.map ilv)), (2, iv at'), (3, iv v), (4, iv i), (5, .ro (V.map iv)), (6, .ro (ow.map iv)), (7, .view 0 0 V.length), (8, .rop (conV c) 0), (18, ilv lp), (19, iv k)], [some ⟨1, se'.map bov, false⟩]⟩)
      (fun ⟨k, se'⟩ => k ≤ V.length ∧ MatI V (PartM c L at' v) o S lp k se') (fun ⟨k, se'⟩ => V.length - k) (0, se) ?_ ?_ ?_
    · exact ⟨by omega, S, hS, prt_0 fun w h => by simp at h⟩
    · rw [hp']; simp [leS, hC]
    rintro ⟨k, se'⟩ ⟨hk, S', hS', hP⟩
    by_cases hkl : k < V.length
    · have lV := lget_iv hkl
      have lw := lget_iv (l := ow) (i := k) (by omega)
      have lsl := hS'.len
      have lse := lget_bov (l := se') (i := k) (by omega)
      have ow_at := hO.at' k hkl
      have se_at := hS'.at' k hkl
      have hm := gt_mem hkl
      have tk : ∀ w, w ∈ V.take (k + 1) → w ∈ V.take k ∨ w = gt V k := fun w hw => by
        rw [take_gt hkl, List.mem_append] at hw; simpa using hw
      have g := rIn_ok lp (by omega) (gt V k)
      have skip : (gt V k ∈ lp → gt V k ∈ S') → Prt (PartM c L at' v) o S S' (fun w => w ∈ lp ∧ w ∈ V.take (k + 1)) := fun h => hP.skip fun w ⟨h1, h2⟩ => by
        rcases tk w h2 with q | q
        · exact .inl ⟨h1, q⟩
        · subst q; exact .inr (h h1)
      have sset := hS'.set hV hkl
      have oup := hO.up hV hkl i
      generalize hwk : gt V k = w at *
      simp (disch := omega) [hkl, lV]
      repeat (refine And.intro (by omega) ?_)
      refine callS (g) (by simp) ?_
      simp
      by_cases hw : w ∈ lp
      · by_cases hs : gt se' k = true
        · simp [hw, hs, lse, lsl, hkl]
          exact ⟨k + 1, se', ⟨by omega, S', hS', skip fun _ => se_at.1 hs⟩, by omega, Le.syn (by simp (disch := omega) [leS, hC, w64])⟩
        · have hs' : gt se' k = false := by simpa using hs
          have wS' : w ∉ S' := fun q => hs (se_at.2 q)
          have wS : w ∉ S := fun q => wS' (hP.sub w q)
          have wL : w ∈ PartM c L at' v i := by rw [hlp]; exact hw
          have wV : w ∈ V := hm
          by_cases hn : gt ow k < 0
          · rw [if_pos hn] at ow_at
            obtain ⟨ow2, e2⟩ : ∃ ow2, ow.set k (i : Int) = ow2 := ⟨_, rfl⟩
            obtain ⟨se2, e3⟩ : ∃ se2, se'.set k true = se2 := ⟨_, rfl⟩
            rw [e2] at oup
            rw [e3] at sset
            have l2 := oup.len
            have l3 := sset.len
            simp [hw, hs', lse, lsl, hkl, lset_bov, lset_iv, lw, hn, ll, e2, e3, -List.map_set]
            refine ⟨by omega, _, Le.frz 1 rfl (by simp), ?_⟩
            have tk2 : List.take V.length (List.map iv ow2) = List.map iv ow2 := List.take_of_length_le (by simp; omega)
            simp [frzS, tset, l2, tk2]
            exact ⟨_, _, ⟨se2, ow2, true, rfl, rfl, l3, fun _ => ⟨_, oup, suc_base hV wV wL wS ow_at⟩, fun h => by cases h⟩, by simp, by simp [leM], by simp, .inr ⟨by simp, by simp [ltM]⟩⟩
          · rw [if_neg hn] at ow_at
            obtain ⟨x0, hx0⟩ : ∃ x0 : Nat, gt ow k = (x0 : Int) := ⟨(gt ow k).toNat, by omega⟩
            rw [hx0] at ow_at lw
            have ow_at : o w = some x0 := by rw [ow_at]; rfl
            have hx0' : ¬ (x0 : Int) < 0 := by omega
            obtain ⟨se3, e3⟩ : ∃ se3, se'.set k true = se3 := ⟨_, rfl⟩
            rw [e3] at sset
            simp [hw, hs', lse, lsl, hkl, lset_bov, lw, hx0, hx0', ll, e3, -List.map_set]
            refine CodeJ.draw (.qs [0, 1, 2, 3, 4, 5, 6, 7, 8, 9, 10] <| .l 11 [0] <| .qs [12, 13, 14, 15, 16] <| .nil) (by kernel_rfl) (by kernel_rfl) (by simp) ?_
            have us := unS_lt wV wS'
            have us2 := unS_le (V := V) hP.sub
            have gr := ih x0 (hlt w x0 ow_at) ow o se3 (w :: S') hO hlt sset (by omega)
            simp [lw, hkl, ll]
            refine callT gr [0] (by simp) (by simp) (by simp) (by simp) (by simp) ?_
            rintro T y ⟨se2, ow2, b, rfl, rfl, l2, h1, h2⟩
            cases b with
            | true =>
              obtain ⟨o2, h3, h4⟩ := h1 rfl
              have oup2 := h3.up hV hkl i
              rw [hwk] at oup2
              have l4 := h3.len
              have lw2 := lget_iv (l := ow2) (i := k) (by omega)
              obtain ⟨ow4, e4⟩ : ∃ ow4, ow2.set k (i : Int) = ow4 := ⟨_, rfl⟩
              rw [e4] at oup2
              have l5 := oup2.len
              simp [lw2, l4, hkl, lset_iv, e4, -List.map_set]
              refine ⟨by omega, _, Le.frz 1 rfl (by simp), ?_⟩
              have tk2 : List.take V.length (List.map iv ow4) = List.map iv ow4 := List.take_of_length_le (by simp; omega)
              simp [frzS, tset, l5, tk2]
              exact ⟨_, _, ⟨se2, ow4, true, rfl, rfl, l2, fun _ => ⟨_, oup2, suc_step hV wV wL wS ow_at (h4.less fun w' hw' => by
                rcases List.mem_cons.1 hw' with q | q
                · simp [q]
                · simp [hP.sub w' q])⟩, fun h => by cases h⟩, by simp, by simp [leM], by simp, .inr ⟨by simp, by simp [ltM]⟩⟩
            | false =>
              obtain ⟨rfl, S2, h3, h4⟩ := h2 rfl
              simp
              exact ⟨k + 1, se2, ⟨by omega, S2, h3, hP.step ow_at h4 fun w' ⟨q1, q2⟩ => (tk w' q2).imp (fun q => ⟨q1, q⟩) id⟩, by omega, Le.syn (by simp (disch := omega) [leS, hC, w64])⟩
      · simp [hw]
        exact ⟨k + 1, se', ⟨by omega, S', hS', skip fun q => absurd q hw⟩, by omega, Le.syn (by simp (disch := omega) [leS, hC, w64])⟩
    · obtain rfl : k = V.length := by omega
      simp
      refine ⟨_, Le.refl _ _, ?_⟩
      simp
      exact ⟨_, _, ⟨se', ow, false, rfl, rfl, hS'.len, fun h => (by cases h), fun _ => ⟨rfl, S', hS', hP.done fun w hw => ⟨hlp ▸ hw, by rw [List.take_length]; exact hVin w (hlp ▸ hw)⟩⟩⟩, by simp, by simp [leM], by simp, .inl rfl⟩
end Go.Proofs

