/- Values that all differ: whether there are some, the document's way. A text of the prover's own. -/
import Derived.Test.YtadkomdooleipaaDoorMAw
namespace Go.Fn
open Go Go.Sv Go.Pl Go.Proofs Go.Tb Go.Ut
/-- the values of the first places' lists -/
def Gat (Lp : Nat → List Int) (w : List Int) (i : Nat) : Prop := w.Nodup ∧ w.length ≤ 12 * i ∧ ∀ x, x < i → ∀ u ∈ Lp x, u ∈ w
def GatI (Lp : Nat → List Int) (w : List Int) (i : Nat) (lp : List Int) (k : Nat) : Prop := w.Nodup ∧ w.length ≤ 12 * i + k ∧ (∀ x, x < i → ∀ u ∈ Lp x, u ∈ w) ∧ ∀ j, j < k → gt lp j ∈ w
def reps (n : Nat) : List Int := List.replicate n (-1)
theorem reps_succ (n : Nat) : reps n ++ [-1] = reps (n + 1) := by unfold reps; rw [List.replicate_succ']
theorem reps_len (n : Nat) : (reps n).length = n := by simp [reps]
theorem owD_reps (w : List Int) : OwD w (reps w.length) (fun _ => none) := ⟨reps_len _, fun j hj => by
  have : gt (reps w.length) j = -1 := by simp [gt, reps, hj]
  rw [this]; rfl, fun _ _ => rfl⟩
theorem seD_0 (w : List Int) : SeD w (List.replicate w.length false) [] := ⟨by simp, fun j hj => by
  have : gt (List.replicate w.length false) j = false := by simp [gt, hj]
  rw [this]; simp⟩
theorem pureL_rep0 {n : Nat} {x : SV} (h : x.pure = true) : SV.pureL (List.replicate n x) = true := by
  induction n with
  | zero => rfl
  | succ n ih => simp [List.replicate_succ, h, ih]
def PtI (w : List Int) (Lp : Nat → List Int) (i : Nat) (ow : List Int) : Prop := ∃ o, OwD w ow o ∧ Mat w Lp i o
end Go.Fn
namespace Go.Proofs
open Go.Sv Go Go.Tb Go.Pl Go.Ut Go.Fn
set_option maxRecDepth 10000 in
set_option maxHeartbeats 2000000 in
theorem rParts_ok {n : Nat} {c : Con} (hc : ConOK n c) {L : Lf} (hL : LOK n L) (at' : Nat) (hat : at' < c.vars.length) (v : Int) : PureC Tryd.prog 53 [conV c, .ro (L.map ilv), iv at', iv v] (TB (Parts (PartM c L at' v) c.vars.length)) := by
  have h8 := hc.vl
  refine pure_enterJ Tryd.func53 rfl (by simp) (fun C hC => ?_)
  refine CodeJ.seqI (CodeJ.regionI (OpsJ.go ?_))
  simp
  refine CodeJ.frz 0 rfl (by simp) ?_
  simp [frzS, tset]
  refine CodeJ.cutAt 3 (fun st => st = ⟨88, [(1, .ro (L.map ilv)), (2, iv at'), (3, iv v), (4, .rop (conV c) 0), (9, iv c.vars.length), (10, .val (.slice none 0 0)), (11, .val (.slice none 0 0))], []⟩) ?_ ?_
  · simp only [takeC_succ, takeC_zero]
    simp
    exact ⟨rfl, by simp [leF, Go.Sv.get], by simp [leM], .inr ⟨by simp [ltF, SV.lt], by simp [ltM], by simp [hC]⟩⟩
  rintro st rfl
  simp only [dropC_succ, dropC_zero]
  refine CodeJ.nil 10 1 rfl ?_
  simp
  refine CodeJ.nil 11 1 rfl ?_
  simp
  refine CodeJ.cutAt 1 (fun st => ∃ w : List Int, Gat (PartM c L at' v) w c.vars.length ∧ st = ⟨88, [(1, .ro (L.map ilv)), (2, iv at'), (3, iv v), (4, .rop (conV c) 0), (9, iv c.vars.length), (10, .view 0 0 w.length), (11, .view 1 0 w.length)], [some ⟨1, w.map iv, false⟩, some ⟨1, (reps w.length).map iv, false⟩]⟩) ?_ ?_
  · simp only [takeC_succ, takeC_zero]
    simp
    refine CodeJ.loop (ι := Nat × List Int) (fun ⟨i, w⟩ => ⟨88, [(1, .ro (L.map ilv)), (2, iv at'), (3, iv v), (4, .rop (conV c) 0), (9, iv c.vars.length), (10, .view 0 0 w.length), (11, .view 1 0 w.length), (12, iv i)], [some ⟨1, w.map iv, false⟩, some ⟨1, (reps w.length).map iv, false⟩]⟩)
      (fun ⟨i, w⟩ => i ≤ c.vars.length ∧ Gat (PartM c L at' v) w i) (fun ⟨i, w⟩ => c.vars.length - i) (0, []) ?_ ?_ ?_
    · exact ⟨by omega, by simp, by simp, fun x hx => by omega⟩
    · simp [leS, hC, reps]
    rintro ⟨i, w⟩ ⟨hi, g1, g2, g3⟩
    by_cases hlt : i < c.vars.length
    · obtain ⟨d1, d2, d3, d4, d5, d6⟩ := hL.at hc hlt
      have vi := lget_iv (l := c.vars) hlt
      have hp : PartM c L at' v i = if i = at' then [v] else lk c L i := by unfold PartM; rw [if_pos hlt]
      obtain ⟨lp, hlp⟩ : ∃ lp, PartM c L at' v i = lp := ⟨_, rfl⟩
      have lpl : lp.length ≤ 12 := by
        rw [← hlp, hp]; split
        · simp
        · exact d2
      have cases_ : ((i : Int) = at' ∧ lp = [v]) ∨ (¬ (i : Int) = at' ∧ lp = lk c L i) := by
        by_cases ia : (i : Int) = at'
        · exact .inl ⟨ia, by rw [← hlp, hp, if_pos (by omega)]⟩
        · exact .inr ⟨ia, by rw [← hlp, hp, if_neg (by omega)]⟩
      simp (disch := omega) [hlt, vi, d1, d5]
      repeat (refine And.intro (by omega) ?_)
      rcases cases_ with ⟨ia, hp'⟩ | ⟨ia, hp'⟩
      · refine ⟨fun _ => ?_, fun q => absurd ia q⟩
        refine CodeJ.frz 2 rfl (by simp) ?_
        simp [frzS, tset]
        refine CodeJ.loop (ι := Nat × List Int) (fun ⟨k, w⟩ => ⟨88, [(1, .ro (L.map ilv)), (2, iv at'), (3, iv v), (4, .rop (conV c) 0), (9, iv c.vars.length), (10, .view 0 0 w.length), (11, .view 1 0 w.length), (12, iv i), (13, ilv lp), (14, iv k)], [some ⟨1, w.map iv, false⟩, some ⟨1, (reps w.length).map iv, false⟩]⟩)
          (fun ⟨k, w⟩ => k ≤ lp.length ∧ GatI (PartM c L at' v) w i lp k) (fun ⟨k, w⟩ => lp.length - k) (0, w) ?_ ?_ ?_
        · exact ⟨by omega, g1, by omega, g3, fun j hj => by omega⟩
        · rw [hp']; simp [leS, hC]
        rintro ⟨k, w⟩ ⟨hk, q1, q2, q3, q4⟩
        by_cases hkl : k < lp.length
        · have lv := lget_iv hkl
          have rs := reps_succ w.length
          have rl := reps_len w.length
          have g := rIn_ok w (by omega) (gt lp k)
          have q4' : ∀ w' : List Int, (∀ u ∈ w, u ∈ w') → gt lp k ∈ w' → ∀ j, j < k + 1 → gt lp j ∈ w' := fun w' h1 h2 j hj => by
            by_cases e : j = k
            · subst e; exact h2
            · exact h1 _ (q4 j (by omega))
          generalize gt lp k = u at *
          simp (disch := omega) [hkl, lv]
          repeat (refine And.intro (by omega) ?_)
          refine callQ g (by simp) (fun x hx => ⟨by rw [hx]; rfl, ?_⟩)
          subst hx
          simp
          by_cases hu : u ∈ w
          · simp [hu]
            exact ⟨k + 1, w, ⟨by omega, q1, by omega, q3, q4' w (fun _ h => h) hu⟩, by omega, by simp (disch := omega) [leS, hC, w64]⟩
          · have nd : (w ++ [u]).Nodup := List.nodup_append.2 ⟨q1, by simp, fun a ha b hb e => hu (by simp at hb; rw [← hb, ← e]; exact ha)⟩
            have rs' : (reps w.length).map iv ++ [.val (.int .i64 (-1))] = (reps (w.length + 1)).map iv := by rw [← rs]; simp
            simp (disch := omega) [hu, hkl, lv, rl, w64]
            repeat (refine And.intro (by omega) ?_)
            exact ⟨⟨by simp [hC], by omega⟩, ⟨by simp [hC], by omega⟩, k + 1, w ++ [u], ⟨by omega, nd, by simp; omega, fun x hx u' hu' => List.mem_append_left _ (q3 x hx u' hu'), q4' _ (fun _ h => List.mem_append_left _ h) (by simp)⟩, by omega, by simp (disch := omega) [leS, hC, w64, rs']⟩
        · obtain rfl : k = lp.length := by omega
          simp
          refine ⟨i + 1, w, ⟨by omega, q1, by omega, fun x hx u hu => ?_⟩, by omega, by simp (disch := omega) [leS, hC, w64]⟩
          by_cases e : x = i
          · subst e
            rw [hlp] at hu
            obtain ⟨j, hj, rfl⟩ := mem_gt hu
            exact q4 j hj
          · exact q3 x (by omega) u hu
      · refine ⟨fun q => absurd q ia, fun _ => ?_⟩
        refine CodeJ.loop (ι := Nat × List Int) (fun ⟨k, w⟩ => ⟨88, [(1, .ro (L.map ilv)), (2, iv at'), (3, iv v), (4, .rop (conV c) 0), (9, iv c.vars.length), (10, .view 0 0 w.length), (11, .view 1 0 w.length), (12, iv i), (13, ilv lp), (14, iv k)], [some ⟨1, w.map iv, false⟩, some ⟨1, (reps w.length).map iv, false⟩]⟩)
          (fun ⟨k, w⟩ => k ≤ lp.length ∧ GatI (PartM c L at' v) w i lp k) (fun ⟨k, w⟩ => lp.length - k) (0, w) ?_ ?_ ?_
        · exact ⟨by omega, g1, by omega, g3, fun j hj => by omega⟩
        · rw [hp']; simp [leS, hC]
        rintro ⟨k, w⟩ ⟨hk, q1, q2, q3, q4⟩
        by_cases hkl : k < lp.length
        · have lv := lget_iv hkl
          have rs := reps_succ w.length
          have rl := reps_len w.length
          have g := rIn_ok w (by omega) (gt lp k)
          have q4' : ∀ w' : List Int, (∀ u ∈ w, u ∈ w') → gt lp k ∈ w' → ∀ j, j < k + 1 → gt lp j ∈ w' := fun w' h1 h2 j hj => by
            by_cases e : j = k
            · subst e; exact h2
            · exact h1 _ (q4 j (by omega))
          generalize gt lp k = u at *
          simp (disch := omega) [hkl, lv]
          repeat (refine And.intro (by omega) ?_)
          refine callQ g (by simp) (fun x hx => ⟨by rw [hx]; rfl, ?_⟩)
          subst hx
          simp
          by_cases hu : u ∈ w
          · simp [hu]
            exact ⟨k + 1, w, ⟨by omega, q1, by omega, q3, q4' w (fun _ h => h) hu⟩, by omega, by simp (disch := omega) [leS, hC, w64]⟩
          · have nd : (w ++ [u]).Nodup := List.nodup_append.2 ⟨q1, by simp, fun a ha b hb e => hu (by simp at hb; rw [← hb, ← e]; exact ha)⟩
            have rs' : (reps w.length).map iv ++ [.val (.int .i64 (-1))] = (reps (w.length + 1)).map iv := by rw [← rs]; simp
            simp (disch := omega) [hu, hkl, lv, rl, w64]
            repeat (refine And.intro (by omega) ?_)
            exact ⟨⟨by simp [hC], by omega⟩, ⟨by simp [hC], by omega⟩, k + 1, w ++ [u], ⟨by omega, nd, by simp; omega, fun x hx u' hu' => List.mem_append_left _ (q3 x hx u' hu'), q4' _ (fun _ h => List.mem_append_left _ h) (by simp)⟩, by omega, by simp (disch := omega) [leS, hC, w64, rs']⟩
        · obtain rfl : k = lp.length := by omega
          simp
          refine ⟨i + 1, w, ⟨by omega, q1, by omega, fun x hx u hu => ?_⟩, by omega, by simp (disch := omega) [leS, hC, w64]⟩
          by_cases e : x = i
          · subst e
            rw [hlp] at hu
            obtain ⟨j, hj, rfl⟩ := mem_gt hu
            exact q4 j hj
          · exact q3 x (by omega) u hu
    · obtain rfl : i = c.vars.length := by omega
      simp
      exact ⟨_, ⟨w, ⟨g1, g2, g3⟩, rfl⟩, by simp [leS, hC]⟩
  rintro st ⟨w, ⟨hN, hw, hG⟩, rfl⟩
  simp only [dropC_succ, dropC_zero]
  refine CodeJ.frz 0 rfl (by simp) ?_
  simp [frzS, tset]
  refine CodeJ.frz 1 rfl (by simp) ?_
  simp [frzS, tset, reps_len]
  refine CodeJ.go ?_
  simp
  have hU : ∀ x, ∀ u ∈ PartM c L at' v x, u ∈ w := fun x u hu => by
    by_cases hx : x < c.vars.length
    · exact hG x hx u hu
    · unfold PartM at hu
      rw [if_neg (by omega), if_neg hx] at hu
      simp at hu
  refine CodeJ.loopL (ι := Nat × List Int) (fun ⟨i, ow⟩ => ⟨88, [(1, .ro (L.map ilv)), (2, iv at'), (3, iv v), (4, .rop (conV c) 0), (9, iv c.vars.length), (10, .ro (w.map iv)), (11, .ro (ow.map iv)), (16, iv i)], []⟩)
    (fun ⟨i, ow⟩ => i ≤ c.vars.length ∧ PtI w (PartM c L at' v) i ow) (fun ⟨i, ow⟩ => c.vars.length - i) (0, reps w.length) ?_ ?_ ?_
  · exact ⟨by omega, _, owD_reps w, mat_0 _ _⟩
  · have tkr : List.take w.length (List.map iv (reps w.length)) = List.map iv (reps w.length) := List.take_of_length_le (by simp [reps_len])
    simp [leS, hC, tkr]
  rintro ⟨i, ow⟩ ⟨hi, o, hO, hM⟩
  by_cases hlt : i < c.vars.length
  · have gm := rMatch_ok hc hL at' hat v w hN (by omega) hU (unS w [] + 1) i hlt ow o (List.replicate w.length false) [] hO (fun u x h => by have := hM.lt h; omega) (seD_0 w) (by omega)
    rw [List.map_replicate] at gm
    simp (disch := omega) [hlt]
    repeat (refine And.intro (by omega) ?_)
    have rr : ∀ σ, renL σ (List.replicate w.length (SV.val (.bool false))) = List.replicate w.length (SV.val (.bool false)) := fun σ => renL_pure σ _ (pureL_rep0 rfl)
    refine callT gm [0] (by simp) (by simp [rr]) (by simp) (by simp) (by simp) ?_
    rintro T y ⟨se, ow', b, rfl, rfl, l2, h1, h2⟩
    cases b with
    | true =>
      obtain ⟨o', h3, h4⟩ := h1 rfl
      simp
      exact ⟨i + 1, ow', ⟨by omega, o', h3, hM.suc hU h4⟩, by omega, Le.syn (by simp (disch := omega) [leS, hC, w64])⟩
    | false =>
      obtain ⟨_, S', _, hcl⟩ := h2 rfl
      simp
      exact tb_mk ⟨fun h => (by cases h), fun h => absurd h (hM.none hlt hcl)⟩
  · obtain rfl : i = c.vars.length := by omega
    simp
    exact tb_mk ⟨fun _ => hM.parts, fun _ => rfl⟩
end Go.Proofs

