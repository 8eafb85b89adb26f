/- Maps of numbers: what was seen, and who owns; what is at a place. Values that all differ: the program's way of matching. Values that all differ: the program's matching, whole. Numbers of which some go, written in place. What is left of the lists, the program's rules: values that all differ. A text of the prover's own. -/
import Derived.Test.YtadkomdooleipaaGreatDoorKOe
import Derived.Test.YtadkomdooleipaaGreatDoorKAw
import Derived.Test.YtadkomdooleipaaGreatDoorKAx
namespace Go.Fn
open Go Go.Sv Go.Pl Go.Proofs Go.Tb Go.Ut
def entS (c : Int) : SV := .tup [.val (.int .i64 c), .val (.bool true)]
@[simp] theorem entS_lt (k : Nat) (e : Int) : (entS e).lt k = true := rfl
@[simp] theorem entS_pure (e : Int) : (entS e).pure = true := rfl
@[simp] theorem entS_uses (k : Nat) (e : Int) : (entS e).uses k = false := rfl
def entO (c : Int × Nat) : SV := .tup [.val (.int .i64 c.1), .val (.int .i64 c.2)]
@[simp] theorem entO_lt (k : Nat) (e : Int × Nat) : (entO e).lt k = true := rfl
@[simp] theorem entO_pure (e : Int × Nat) : (entO e).pure = true := rfl
@[simp] theorem entO_uses (k : Nat) (e : Int × Nat) : (entO e).uses k = false := rfl
theorem kfindS (c : Int) : ∀ (l : List Int) (i : Nat), (c ∉ l → kfind (.int .i64 c) (l.map entS) i = some none) ∧ (c ∈ l → ∃ j, kfind (.int .i64 c) (l.map entS) i = some (some (j, .val (.bool true))))
  | [], i => ⟨fun _ => rfl, fun h => by simp at h⟩
  | t :: l, i => by
    obtain ⟨h1, h2⟩ := kfindS c l (i + 1)
    have k : kfind (.int .i64 c) ((t :: l).map entS) i = kgo (.int .i64 c) (.int .i64 t) (.val (.bool true)) i (kfind (.int .i64 c) (l.map entS) (i + 1)) := rfl
    rw [k]
    unfold kgo
    rw [keq_int]
    by_cases h : c = t
    · subst h
      exact ⟨fun h => by simp at h, fun _ => ⟨i, by simp⟩⟩
    · simp only [h, decide_false, List.mem_cons, false_or]
      exact ⟨h1, h2⟩
theorem lkR_S {l : List Int} {c : Int} {M : Tab} {a b : Nat} : lkR false M ⟨.bool, a, b, [.val (.bool false)]⟩ (kfind (.int .i64 c) (l.map entS) 0) = .m True M [] (some (bov (decide (c ∈ l)))) := by
  by_cases h : c ∈ l
  · obtain ⟨j, hj⟩ := (kfindS c l 0).2 h; rw [hj]; simp [h]
  · rw [(kfindS c l 0).1 h]; simp [h]
theorem upR_S {l : List Int} {c : Int} {M : Tab} {k : Nat} (h : c ∉ l) : upR M k (l.map entS) (.int .i64 c) (.val (.bool true)) (kfind (.int .i64 c) (l.map entS) 0) = .m True (tset M k (some ⟨0, (l ++ [c]).map entS, false⟩)) [] none := by
  rw [(kfindS c l 0).1 h]; simp [upR]; rfl
/-- the owners by a map -/
def owL : List (Int × Nat) → Ow
  | [], _ => none
  | x :: m, v => if v = x.1 then some x.2 else owL m v
def upL : List (Int × Nat) → Int → Nat → List (Int × Nat)
  | [], v, i => [(v, i)]
  | x :: m, v, i => if v = x.1 then (v, i) :: m else x :: upL m v i
theorem owL_up (v : Int) (i : Nat) : ∀ m : List (Int × Nat), owL (upL m v i) = up (owL m) v i
  | [] => by funext w; by_cases h : w = v <;> simp [upL, owL, up, h]
  | x :: m => by
    have ih := owL_up v i m
    funext w
    by_cases h : v = x.1
    · simp only [upL, if_pos h, owL, up]
      by_cases e : w = v
      · simp [e]
      · simp [e, show ¬ w = x.1 from fun q => e (q.trans h.symm)]
    · simp only [upL, if_neg h, owL, ih, up]
      by_cases e : w = v
      · subst e; simp [h]
      · simp [e]
theorem kfindO (v : Int) : ∀ (m : List (Int × Nat)) (i : Nat), (owL m v = none → kfind (.int .i64 v) (m.map entO) i = some none ∧ upL m v = fun o => m ++ [(v, o)]) ∧
    (∀ o, owL m v = some o → ∃ j, j < m.length ∧ kfind (.int .i64 v) (m.map entO) i = some (some (i + j, .val (.int .i64 o))) ∧ ∀ o', upL m v o' = m.set j (v, o'))
  | [], i => ⟨fun _ => ⟨rfl, rfl⟩, fun o h => by simp [owL] at h⟩
  | x :: m, i => by
    obtain ⟨h1, h2⟩ := kfindO v m (i + 1)
    have k : kfind (.int .i64 v) ((x :: m).map entO) i = kgo (.int .i64 v) (.int .i64 x.1) (.val (.int .i64 x.2)) i (kfind (.int .i64 v) (m.map entO) (i + 1)) := rfl
    rw [k]
    unfold kgo
    rw [keq_int]
    by_cases h : v = x.1
    · simp only [owL, if_pos h]
      refine ⟨fun q => by simp at q, fun o q => ⟨0, by simp, ?_, fun o' => ?_⟩⟩
      · simp at q; simp [h, q]
      · simp [upL, h]
    · simp only [owL, if_neg h, h, decide_false]
      refine ⟨fun q => ?_, fun o q => ?_⟩
      · obtain ⟨a, b⟩ := h1 q
        refine ⟨a, ?_⟩
        funext o
        simp [upL, h, b]
      · obtain ⟨j, a, b, d⟩ := h2 o q
        refine ⟨j + 1, by simpa using a, ?_, fun o' => ?_⟩
        · rw [b]; simp; omega
        · simp [upL, h, d]
theorem lkR_O0 {m : List (Int × Nat)} {v : Int} {M : Tab} {a b : Nat} (h : owL m v = none) : lkR true M ⟨.int .i64, a, b, [.val (.int .i64 0)]⟩ (kfind (.int .i64 v) (m.map entO) 0) = .m True M [] (some (.tup [.val (.int .i64 0), .val (.bool false)])) := by
  rw [((kfindO v m 0).1 h).1]; rfl
theorem lkR_O {m : List (Int × Nat)} {v : Int} {o : Nat} {M : Tab} {a b : Nat} (h : owL m v = some o) : lkR true M ⟨.int .i64, a, b, [.val (.int .i64 0)]⟩ (kfind (.int .i64 v) (m.map entO) 0) = .m True M [] (some (.tup [.val (.int .i64 o), .val (.bool true)])) := by
  obtain ⟨j, _, hj, _⟩ := (kfindO v m 0).2 o h
  rw [hj]; rfl
theorem upR_O {m : List (Int × Nat)} {v : Int} {i : Nat} {M : Tab} {k : Nat} : upR M k (m.map entO) (.int .i64 v) (.val (.int .i64 i)) (kfind (.int .i64 v) (m.map entO) 0) = .m True (tset M k (some ⟨0, (upL m v i).map entO, false⟩)) [] none := by
  cases h : owL m v with
  | none =>
    obtain ⟨a, b⟩ := (kfindO v m 0).1 h
    rw [a, b]; simp [upR]; rfl
  | some o =>
    obtain ⟨j, hj, a, b⟩ := (kfindO v m 0).2 o h
    rw [a, b]; simp only [upR, Nat.zero_add, lset_eq, List.map_set]; rfl
end Go.Fn
namespace Go.Proofs
open Go.Sv Go Go.Tb Go.Pl Go.Ut Go.Fn
set_option maxRecDepth 10000 in
theorem match1_ok (p : Puz) {n : Nat} {c : Con} (hc : ConOK n c) {L : Lf} (hL : LOK n L) (at' : Nat) (v : Int) (i : Nat) (hi : i < c.vars.length) :
    EffC Tryz.prog 99 [iv i, .rop (iv at') 0, .rop (iv v) 0, .ptr 2 0 0, .rop (ilv c.vars) 0] (NT p L ++ [nC]) [] (fun T y => T = NT p L ++ [nC] ∧ y = ilv (PartM c L at' v i)) := by
  have h8 := hc.vl
  obtain ⟨u, eu, hu, lu, l12, l0, ub⟩ := hL.nat hc hi
  have vi := lget_iv (l := c.vars) hi
  rw [eu] at vi
  have lv := lget_ilv hu
  have hp : PartM c L at' v i = if i = at' then [v] else lk c L i := by unfold PartM; rw [if_pos hi]
  refine eff_enterC Tryz.func99 rfl (by simp) (fun C hC => ?_)
  have hC : C.fx = [0, 1, 2] := hC
  refine CodeJ.wk ?_
  refine CodeJ.go ?_
  simp only [NT, netV, nC, List.cons_append, List.nil_append]
  by_cases e : i = at'
  · rw [hp, if_pos e]
    subst e
    simp
    refine ⟨_, Le.frz 3 rfl (by simp), ?_⟩
    simp [frzS, tset]
    exact ⟨_, _, ⟨rfl, rfl⟩, rfl, by simp [leM], by simp, .inr ⟨by simp, by simp [ltM]⟩⟩
  · have e' : ¬ (i : Int) = at' := by omega
    rw [hp, if_neg e, lu]
    simp [e, e']
    refine CodeJ.draw (.qs [0, 1, 2, 3, 4, 5, 6, 7, 8, 9, 10] <| .nil) (by kernel_rfl) (by kernel_rfl) (by simp) ?_
    simp (disch := omega) [hi, vi, hu, lv]
    repeat (refine And.intro (by omega) ?_)
    refine ⟨_, Le.refl _ _, ?_⟩
    simp
    exact ⟨_, _, ⟨rfl, rfl⟩, rfl, by simp [leM], by simp, .inl rfl⟩
end Go.Proofs
namespace Go.Fn
open Go Go.Sv Go.Pl Go.Proofs Go.Tb Go.Ut
/-- what matching has: the owners, the lists, itself -/
def mT (vs : List Int) (a : Nat) (v : Int) (m : List (Int × Nat)) : Tab := [nC, some ⟨0, m.map entO, false⟩, some ⟨1, [.mp 3], false⟩, some ⟨1, [.fnv 99 [] [.rop (iv a) 0, .rop (iv v) 0, .ptr 2 0 0, .rop (ilv vs) 0]], false⟩, some ⟨1, [.fnv 100 [] [.ptr 5 0 0, .ptr 4 0 0, .ptr 6 0 0]], false⟩]
def sT (S : List Int) : Tab := [some ⟨0, S.map entS, false⟩]
def MtQ (p : Puz) (c : Con) (L : Lf) (a : Nat) (v : Int) (V S : List Int) (i : Nat) (m : List (Int × Nat)) (T : Tab) (y : SV) : Prop :=
  ∃ (S' : List Int) (m' : List (Int × Nat)) (b : Bool), T = NT p L ++ (mT c.vars a v m' ++ sT S') ∧ y = bov b ∧ (b = true → Suc V (PartM c L a v) S i (owL m) (owL m')) ∧ (b = false → m' = m ∧ Clo (PartM c L a v) (owL m) S S' i)
structure LS where
  k : Nat
  S : List Int
theorem Clo.mono {Lp : Nat → List Int} {o : Ow} {S S1 S' : List Int} {i : Nat} (h : Clo Lp o S S' i) (h1 : ∀ v, v ∈ S ↔ v ∈ S1) : Clo Lp o S1 S' i := ⟨fun v hv => h.sub v ((h1 v).2 hv), h.lst, fun v hv hn => h.own v hv fun q => hn ((h1 v).1 q)⟩
end Go.Fn
namespace Go.Proofs
open Go.Sv Go Go.Tb Go.Pl Go.Ut Go.Fn
set_option maxRecDepth 10000 in
set_option maxHeartbeats 2000000 in
theorem match2_ok (p : Puz) {n : Nat} {c : Con} (hc : ConOK n c) {L : Lf} (hL : LOK n L) (a : Nat) (v : Int) (V : List Int) (hV : V.Nodup) (hU : ∀ x, ∀ w ∈ PartM c L a v x, w ∈ V) :
    ∀ (d : Nat) (i : Nat) (hi : i < c.vars.length) (m : List (Int × Nat)) (S : List Int), (∀ w x, owL m w = some x → x < c.vars.length) → unS V S < d →
      EffC Tryz.prog 100 [iv i, .mp 7, .ptr 5 0 0, .ptr 4 0 0, .ptr 6 0 0] (NT p L ++ (mT c.vars a v m ++ sT S)) [] (MtQ p c L a v V S i m) := by
  intro d
  induction d with
  | zero => intro i hi m S _ h; omega
  | succ d ih =>
  intro i hi m S hlt hm
  have h8 := hc.vl
  have g1 := match1_ok p hc hL a v i hi
  obtain ⟨lp, hlp⟩ : ∃ lp, PartM c L a v i = lp := ⟨_, rfl⟩
  have lpl : lp.length ≤ 12 := by
    rw [← hlp]; unfold PartM
    by_cases e : i = a
    · simp [e]
    · rw [if_neg e]
      obtain ⟨u, _, _, lu, l12, _⟩ := hL.nat hc hi
      rw [if_pos hi, lu]; exact l12
  rw [hlp] at g1
  refine eff_enterC Tryz.func100 rfl (by simp) (fun C hC => ?_)
  have hC : C.fx = [0, 1, 2, 3, 4, 5, 6, 7] := hC
  refine CodeJ.go ?_
  simp only [NT, netV, mT, sT, nC, List.cons_append, List.nil_append]
  simp
  refine callT g1 [0, 1, 2] (by simp [NT, netV, nC]) (by simp [NT, netV, nC]) (by simp) (by simp [NT, netV, nC]) (by simp [NT, netV, nC]) ?_
  rintro T y ⟨rfl, rfl⟩
  simp [NT, netV, nC]
  refine CodeJ.loop (ι := LS) (fun ⟨k, S'⟩ => ⟨43, [(0, iv i), (1, .mp 7), (2, .ptr 5 0 0), (3, .ptr 4 0 0), (4, .ptr 6 0 0), (14, ilv lp), (15, iv lp.length), (16, iv k)], NT p L ++ (mT c.vars a v m ++ sT S')⟩)
    (fun ⟨k, S'⟩ => k ≤ lp.length ∧ Prt (PartM c L a v) (owL m) S S' (fun w => w ∈ lp.take k)) (fun ⟨k, S'⟩ => lp.length - k) ⟨0, S⟩ ?_ ?_ ?_
  · exact ⟨Nat.zero_le _, prt_0 fun w h => by simp at h⟩
  · simp [leS, hC, NT, netV, mT, sT, nC]
  rintro ⟨k, S'⟩ ⟨hk, hP⟩
  simp only [NT, netV, mT, sT, nC, List.cons_append, List.nil_append]
  by_cases hkl : k < lp.length
  · have lv := lget_iv hkl
    have wl := gt_mem hkl
    have tk : ∀ w, w ∈ lp.take (k + 1) → w ∈ lp.take k ∨ w = gt lp k := fun w hw => by
      rw [take_gt hkl, List.mem_append] at hw; simpa using hw
    generalize gt lp k = w at *
    have wL : w ∈ PartM c L a v i := by rw [hlp]; exact wl
    have wV : w ∈ V := hU i w wL
    by_cases hs : w ∈ S'
    · simp (disch := omega) [hkl, lv, lkR_S, hs]
      repeat (refine And.intro (by omega) ?_)
      exact ⟨⟨k + 1, S'⟩, ⟨hkl, hP.skip fun u hu => (tk u hu).imp id fun q => by rw [q]; exact hs⟩, Nat.sub_succ_lt_self _ _ hkl, by simp (disch := omega) [leS, hC, w64, NT, netV, mT, sT, nC]⟩
    · have wS : w ∉ S := fun q => hs (hP.sub w q)
      cases ho : owL m w with
      | none =>
        simp (disch := omega) [hkl, lv, lkR_S, hs, upR_S hs, lkR_O0 ho, upR_O]
        repeat (refine And.intro (by omega) ?_)
        exact ⟨_, _, ⟨S' ++ [w], upL m w i, true, rfl, rfl, fun _ => by rw [owL_up]; exact suc_base hV wV wL wS ho, fun h => by cases h⟩, rfl, by simp [leM, NT, netV, mT, sT, nC], by simp [NT, mT, sT], .inl rfl⟩
      | some x0 =>
        have us := unS_lt wV hs
        have us2 := unS_le (V := V) hP.sub
        have us3 := unS_le (V := V) (S := w :: S') (S' := S' ++ [w]) fun u hu => by
          simp only [List.mem_cons, List.mem_append, List.not_mem_nil, or_false] at hu ⊢; exact hu.symm
        have gr := ih x0 (hlt w x0 ho) m (S' ++ [w]) hlt (by omega)
        simp (disch := omega) [hkl, lv, lkR_S, hs, upR_S hs, lkR_O ho]
        repeat (refine And.intro (by omega) ?_)
        refine callT gr [0, 1, 2, 3, 4, 5, 6, 7] (by simp) (by simp [NT, netV, mT, sT, nC]) (by simp) (by simp) (by simp) ?_
        rintro T y ⟨S2, m2, b, rfl, rfl, h1, h2⟩
        simp [NT, netV, mT, sT, nC]
        refine ⟨fun e => ?_, fun e => ?_⟩
        · have h3 := h1 e
          simp (disch := omega) [upR_O]
          repeat (refine And.intro (by omega) ?_)
          exact ⟨_, _, ⟨S2, upL m2 w i, true, rfl, rfl, fun _ => by
            rw [owL_up]
            exact suc_step hV wV wL wS ho (h3.less fun u hu => by
              rcases List.mem_cons.1 hu with q | q
              · simp [q]
              · simp [hP.sub u q]), fun h => by cases h⟩, rfl, by simp [leM, NT, netV, mT, sT, nC], by simp [NT, mT, sT], .inl rfl⟩
        · obtain ⟨rfl, h3⟩ := h2 e
          exact ⟨⟨k + 1, S2⟩, ⟨hkl, hP.step ho (h3.mono fun u => by simp [or_comm]) tk⟩, Nat.sub_succ_lt_self _ _ hkl, by simp (disch := omega) [leS, hC, w64, NT, netV, mT, sT, nC]⟩
  · obtain rfl : k = lp.length := by omega
    simp
    exact ⟨_, _, ⟨S', m, false, rfl, rfl, fun h => (by cases h), fun _ => ⟨rfl, hP.done fun w hw => by rw [List.take_length, ← hlp]; exact hw⟩⟩, rfl, by simp [leM, NT, netV, mT, sT, nC], by simp [NT, mT, sT], .inl rfl⟩
end Go.Proofs
namespace Go.Fn
open Go Go.Sv Go.Pl Go.Proofs Go.Tb Go.Ut
structure LM where
  i : Nat
  m : List (Int × Nat)
def MchI (V : List Int) (Lp : Nat → List Int) (i : Nat) (m : List (Int × Nat)) : Prop := Mat V Lp i (owL m)
end Go.Fn
namespace Go.Proofs
open Go.Sv Go Go.Tb Go.Pl Go.Ut Go.Fn
set_option maxRecDepth 10000 in
set_option maxHeartbeats 2000000 in
theorem nMatch_ok (p : Puz) {n : Nat} {c : Con} (hc : ConOK n c) {L : Lf} (hL : LOK n L) (a : Nat) (ha : a < c.vars.length) (v : Int) :
    EffC Tryz.prog 96 [.ptr 0 0 0, ilv c.vars, iv a, iv v] (NT p L) [] (fun T y => T = NT p L ∧ TB (Parts (PartM c L a v) c.vars.length) y) := by
  have h8 := hc.vl
  obtain ⟨V, hV, hVm⟩ := dedup_ex ((List.range c.vars.length).flatMap (PartM c L a v))
  have hU : ∀ x, ∀ w ∈ PartM c L a v x, w ∈ V := fun x w hw => by
    rw [hVm, List.mem_flatMap]
    by_cases hx : x < c.vars.length
    · exact ⟨x, List.mem_range.2 hx, hw⟩
    · unfold PartM at hw
      rw [if_neg (by omega), if_neg hx] at hw
      simp at hw
  refine eff_enterC Tryz.func96 rfl (by simp) (fun C hC => ?_)
  have hC : C.fx = [0, 1] := hC
  simp only [NT, netV]
  refine CodeJ.seqI (CodeJ.regionI (OpsJ.go ?_))
  simp
  refine CodeJ.frz 3 rfl (by simp) ?_
  simp [frzS, tset]
  refine CodeJ.frz 4 rfl (by simp) ?_
  simp [frzS, tset]
  refine CodeJ.frz 5 rfl (by simp) ?_
  simp [frzS, tset]
  refine CodeJ.go ?_
  simp
  refine CodeJ.loop (ι := LM) (fun ⟨i, m⟩ => ⟨27, [(11, .ptr 9 0 0), (17, iv c.vars.length), (18, iv i)], NT p L ++ [nC, none, none, none, some ⟨0, m.map entO, false⟩, some ⟨1, [.mp 6], false⟩, some ⟨1, [.fnv 99 [] [.rop (iv a) 0, .rop (iv v) 0, .ptr 2 0 0, .rop (ilv c.vars) 0]], false⟩, some ⟨1, [.fnv 100 [] [.ptr 8 0 0, .ptr 7 0 0, .ptr 9 0 0]], false⟩]⟩)
    (fun ⟨i, m⟩ => i ≤ c.vars.length ∧ MchI V (PartM c L a v) i m) (fun ⟨i, m⟩ => c.vars.length - i) ⟨0, []⟩ ?_ ?_ ?_
  · exact ⟨Nat.zero_le _, mat_0 V _⟩
  · simp [leS, hC, NT, netV, nC]
  rintro ⟨i, m⟩ ⟨hi, hM⟩
  have hM : Mat V (PartM c L a v) i (owL m) := hM
  simp only [NT, netV, nC, List.cons_append, List.nil_append]
  by_cases hlt : i < c.vars.length
  · have gm := match2_ok p hc hL a v V hV hU (unS V [] + 1) i hlt m [] (fun w x h => by have := hM.lt h; omega) (by omega)
    simp (disch := omega) [hlt]
    repeat (refine And.intro (by omega) ?_)
    refine callT gm [0, 1, 2, 6, 7, 8, 9, 10] (by simp) (by simp [NT, netV, mT, sT, nC]) (by simp) (by simp) (by simp) ?_
    rintro T y ⟨S2, m2, b, rfl, rfl, h1, h2⟩
    simp [NT, netV, mT, sT, nC]
    refine ⟨fun e => ?_, fun e => ?_⟩
    · obtain ⟨rfl, h3⟩ := h2 e
      exact ⟨_, _, ⟨rfl, false, rfl, fun h => (by cases h), fun h => absurd h (hM.none hlt h3)⟩, rfl, by simp [leM], by simp, .inr ⟨by simp, by simp [ltM]⟩⟩
    · exact ⟨⟨i + 1, m2⟩, ⟨hlt, hM.suc hU (h1 e)⟩, Nat.sub_succ_lt_self _ _ hlt, by simp (disch := omega) [leS, hC, w64, NT, netV, nC]⟩
  · obtain rfl : i = c.vars.length := by omega
    simp
    exact ⟨_, _, ⟨rfl, true, rfl, fun _ => hM.parts, fun _ => rfl⟩, rfl, by simp [leM], by simp, .inr ⟨by simp, by simp [ltM]⟩⟩
end Go.Proofs
namespace Go.Sv
open Go
/-- entries in another order, where those that may not be moved stay -/
theorem Le.permF {C : Ctx} (σ : Nat → Nat) (hC : ∀ k ∈ C.fx, σ k = k) {st st' : St} (hn : st.n = st'.n) (hi : ∀ k k', k < st'.M.length → k' < st'.M.length → σ k = σ k' → k = k') (hl : ∀ k, st'.M.length ≤ k → st.M.length ≤ σ k)
    (hM : ∀ (k : Nat) (e : Ent), st'.M[k]? = some (some e) → st.M[σ k]? = some (some (renE σ e))) (hf : ∀ t x, get st'.fr t = some x → get st.fr t = some (ren σ x)) : Le C st st' := by
  rintro a w ⟨β, H, hF, hW⟩
  have lt : ∀ (k : Nat) (e : Ent), st'.M[k]? = some (some e) → k < st'.M.length := fun k e h => (List.getElem?_eq_some_iff.1 h).1
  refine ⟨fun k => β (σ k), H, ⟨⟨hF.1.1, hF.1.2⟩, by rw [← hn]; exact hF.2.1, fun t x hg => ?_⟩, ?_⟩
  · obtain ⟨v, h1, h2⟩ := hF.2.2 t _ (hf t x hg)
    exact ⟨v, h1, ren_den.1 h2⟩
  · refine ⟨hW.os, hW.tape, hW.output, hW.size, hW.frame, hW.ext, hW.new, hW.inv, fun k e hk => EntOK.ren.1 (hW.ents _ _ (hM k e hk)), fun k e d hk hd => hW.own (σ k) (renE σ e) d (hM k e hk) hd,
      fun k k' e e' d d' hk hk' hd hd' he => hi k k' (lt k e hk) (lt k' e' hk') (hW.inj _ _ _ _ _ _ (hM k e hk) (hM k' e' hk') hd hd' he), fun k hk => hW.fresh _ (hl k hk), fun k d hk h => by
        show β (σ k) = _
        rw [hC k hk]; exact hW.keep k d hk h, hW.glob⟩
@[simp] theorem sbL_lset {k : Nat} {es : List SV} : ∀ {l : List SV} {i : Nat} {x : SV}, sbL k es (lset l i x) = lset (sbL k es l) i (sbV k es x)
  | [], _, _ => by simp [lset_eq, sbL]
  | a :: l, 0, x => by simp [lset_eq, sbL]
  | a :: l, i + 1, x => by
    have := sbL_lset (k := k) (es := es) (l := l) (i := i) (x := x)
    simp only [lset_eq] at this
    simp [lset_eq, sbL, this]
end Go.Sv
namespace Go.Fn
open Go Go.Sv Go.Pl Go.Proofs Go.Tb Go.Ut
/-- where the first stands of which a function says yes -/
def IdxQ (l : List Int) (q : Int → Bool) (x : SV) : Prop := (x = iv (-1) ∧ ∀ v ∈ l, q v = false) ∨ ∃ i : Nat, x = iv i ∧ i < l.length ∧ q (gt l i) = true ∧ ∀ j, j < i → q (gt l j) = false
def nq (q : Int → Bool) (v : Int) : Bool := !q v
def DelQ (l : List Int) (q : Int → Bool) (T : Tab) (y : SV) : Prop := ∃ (m : List Int) (k : Nat), T = [some ⟨1, m.map iv, false⟩] ∧ y = .view 0 0 k ∧ k ≤ m.length ∧ m.take k = l.filter (nq q)
structure LD where
  i : Nat
  j : Nat
  m : List Int
structure DelI (l : List Int) (q : Int → Bool) (i j : Nat) (m : List Int) : Prop where
  len : m.length = l.length
  ij : i < j
  jl : j ≤ l.length
  fst : m.take i = (l.take j).filter (nq q)
  rst : ∀ t, j ≤ t → t < l.length → gt m t = gt l t
theorem filter_take0 {l : List Int} {q : Int → Bool} : ∀ {i : Nat}, i ≤ l.length → (∀ j, j < i → q (gt l j) = false) → (l.take i).filter (nq q) = l.take i := fun {i} hi h => by
  refine List.filter_eq_self.2 fun v hv => ?_
  obtain ⟨j, hj, rfl⟩ := mem_gt hv
  have hj' : j < i := by simp at hj; omega
  have : gt (l.take i) j = gt l j := by rw [← gt_get hj, ← gt_get (by omega)]; simp
  rw [this, nq, h j hj']; rfl
theorem take_set1 {m : List Int} {i : Nat} {u : Int} (h : i < m.length) : (m.set i u).take (i + 1) = m.take i ++ [u] := by
  rw [take_gt (by simpa using h), gt_set h, if_pos rfl]
  congr 1
  exact List.take_set_of_le (Nat.le_refl _)
end Go.Fn
namespace Go.Proofs
open Go.Sv Go Go.Tb Go.Pl Go.Ut Go.Fn
set_option maxRecDepth 10000 in
theorem slIdxF_ok (l : List Int) (hl : l.length ≤ 1000000) (F : FuncId) (caps : List SV) (hc : SV.pureL caps = true) (hF : callOK Tryz.prog F) (q : Int → Bool) (g : ∀ v ∈ l, PureF Tryz.prog F (iv v :: caps) (bov (q v))) :
    PureC Tryz.prog 101 [.ro (l.map iv), .fnv F [] caps] (IdxQ l q) := by
  refine pure_enter Tryz.func101 rfl (by simp) (fun C hC => ?_)
  simp [hc]
  refine CodeJ.loop (ι := Nat) (fun i => ⟨19, [(0, .ro (l.map iv)), (1, .fnv F [] caps), (7, iv l.length), (8, iv i)], []⟩)
    (fun i => i ≤ l.length ∧ ∀ j, j < i → q (gt l j) = false) (fun i => l.length - i) 0 ?_ ?_ ?_
  · exact ⟨by omega, fun j hj => by omega⟩
  · simp [leS, hC]
  rintro i ⟨hi, hf⟩
  by_cases hlt : i < l.length
  · have gg := g _ (gt_mem hlt)
    have st := @step_lt (fun j => q (gt l j) = false) i hf
    have lv := lget_iv hlt
    obtain ⟨r, hr⟩ : ∃ r, gt l i = r := ⟨_, rfl⟩
    rw [hr] at gg st lv
    simp (disch := omega) [hlt, lv, hF]
    repeat (refine And.intro (by omega) ?_)
    refine callS gg (by simp [hc]) ?_
    simp
    refine ⟨fun e => ?_, fun e => ?_⟩
    · exact ⟨_, by simp, .inr ⟨i, rfl, hlt, by rw [hr]; exact e, hf⟩⟩
    · exact ⟨i + 1, ⟨by omega, st e⟩, by omega, by simp (disch := omega) [leS, hC, w64]⟩
  · obtain rfl : i = l.length := by omega
    simp
    refine ⟨_, by simp, .inl ⟨rfl, fun v hv => ?_⟩⟩
    obtain ⟨j, hj, rfl⟩ := mem_gt hv
    exact hf j hj
set_option maxRecDepth 10000 in
set_option maxHeartbeats 1000000 in
theorem slDelete_ok (l : List Int) (hl : l.length ≤ 1000000) (F : FuncId) (caps : List SV) (hc : SV.pureL caps = true) (hF : callOK Tryz.prog F) (q : Int → Bool) (g : ∀ v ∈ l, PureF Tryz.prog F (iv v :: caps) (bov (q v))) :
    EffC Tryz.prog 97 [.view 0 0 l.length, .fnv F [] caps] [some ⟨1, l.map iv, false⟩] [] (DelQ l q) := by
  refine eff_enterC Tryz.func97 rfl (by simp) (fun C hC => ?_)
  have hC : C.fx = [0] := hC
  refine CodeJ.seqI (CodeJ.regionI (OpsJ.go ?_))
  simp
  refine CodeJ.seqI (CodeJ.regionI (OpsJ.go ?_))
  simp
  refine callQ (slIdxF_ok l hl F caps hc hF q g) (by simp [hc]) (fun x hx => ?_)
  rcases hx with ⟨rfl, h0⟩ | ⟨i, rfl, hi, h1, h2⟩
  · refine ⟨rfl, ?_⟩
    simp
    refine CodeJ.go ?_
    simp
    exact ⟨_, _, ⟨l, l.length, rfl, rfl, Nat.le_refl _, by
      rw [List.take_length]
      exact (List.filter_eq_self.2 fun v hv => by rw [nq, h0 v hv]; rfl).symm⟩, rfl, by simp [leM], by simp, .inl rfl⟩
  refine ⟨rfl, ?_⟩
  simp
  refine CodeJ.cutAt 2 (fun st => ∃ (i' : Nat) (m : List Int), DelI l q i' l.length m ∧ st = ⟨42, [(0, .view 0 0 l.length), (5, iv i')], [some ⟨1, m.map iv, false⟩]⟩) ?_ ?_
  rotate_left 1
  · rintro st ⟨k', m, hI, rfl⟩
    have hm := hI.len
    have a2 := hI.ij
    simp only [dropC_succ, dropC_zero]
    refine CodeJ.seqI (CodeJ.regionI (OpsJ.step rfl ?_))
    simp
    refine OpsJ.step rfl ?_
    simp
    refine OpsJ.step rfl ?_
    simp (disch := omega) [hm]
    repeat (refine And.intro (by omega) ?_)
    refine OpsJ.clearEnd (es := m.map iv) 0 k' (l.length - k') (by simp) (Tryz.ty26) (Tryz.ty3) rfl (by simp [hm]; omega) (by omega) (by simp) ?_
    refine OpsJ.go ?_
    simp
    refine CodeJ.go ?_
    simp
    have e := hI.fst
    rw [List.take_length] at e
    exact ⟨by omega, _, _, ⟨m.take k' ++ List.replicate (l.length - k') 0, k', rfl, rfl, by simp; omega, by rw [← e, List.take_append_of_le_length (by simp; omega), List.take_take]; simp⟩, rfl, by simp [leM], by simp, .inl rfl⟩
  simp only [takeC_succ, takeC_zero]
  simp
  refine CodeJ.loop (ι := LD) (fun ⟨i, j, m⟩ => ⟨42, [(0, .view 0 0 l.length), (1, .fnv F [] caps), (5, iv i), (6, iv j)], [some ⟨1, m.map iv, false⟩]⟩)
    (fun ⟨i, j, m⟩ => DelI l q i j m) (fun ⟨i, j, m⟩ => l.length - j) ⟨i, i + 1, l⟩ ?_ ?_ ?_
  · refine ⟨rfl, by omega, hi, ?_, fun t _ _ => rfl⟩
    rw [take_gt hi, List.filter_append, filter_take0 (by omega) h2]
    simp [nq, h1]
  · simp (disch := omega) [leS, hC, w64]
  rintro ⟨i', j, m⟩ hI
  have hm := hI.len
  have hij := hI.ij
  have hjl := hI.jl
  by_cases hlt : j < l.length
  · have gg := g _ (gt_mem hlt)
    have lv := lget_iv (l := m) (i := j) (by omega)
    rw [hI.rst j (Nat.le_refl _) hlt] at lv
    have ft : (l.take (j + 1)).filter (nq q) = if q (gt l j) = true then m.take i' else m.take i' ++ [gt l j] := by
      rw [take_gt hlt, List.filter_append, ← hI.fst]
      by_cases e : q (gt l j) = true <;> simp [nq, e]
    have rst := hI.rst
    generalize gt l j = u at *
    simp (disch := omega) [hlt, hm, lv, hF]
    repeat (refine And.intro (by omega) ?_)
    refine callS gg (by simp [hc]) ?_
    simp
    refine ⟨fun e => ?_, fun e => ?_⟩
    · rw [if_neg (by simp [e])] at ft
      have li := lget_iv (l := m) (i := i') (by omega)
      simp (disch := omega) [hm, li, lset_iv, -List.map_set]
      repeat (refine And.intro (by omega) ?_)
      exact ⟨⟨i' + 1, j + 1, m.set i' u⟩, ⟨by simp [hm], Nat.succ_lt_succ hij, hlt, by rw [ft]; exact take_set1 (by omega), fun t h1 h2 => by
        have h1' : j + 1 ≤ t := h1
        show gt (m.set i' u) t = _
        rw [gt_set (by omega), if_neg (by omega)]; exact rst t (by omega) h2⟩, Nat.sub_succ_lt_self _ _ hlt, by simp (disch := omega) [leS, hC, w64, -List.map_set]⟩
    · rw [if_pos e] at ft
      exact ⟨⟨i', j + 1, m⟩, ⟨hm, Nat.lt_succ_of_lt hij, hlt, ft.symm, fun t h1 h2 => rst t (Nat.le_of_succ_le h1) h2⟩, Nat.sub_succ_lt_self _ _ hlt, by simp (disch := omega) [leS, hC, w64]⟩
  · obtain rfl : j = l.length := by omega
    simp
    exact ⟨_, ⟨i', m, hI, rfl⟩, by simp [leS, hC]⟩
end Go.Proofs
namespace Go.Fn
open Go Go.Sv Go.Pl Go.Proofs Go.Tb Go.Ut
open Classical in
noncomputable def mB (c : Con) (L : Lf) (i : Nat) (v : Int) : Bool := decide (Parts (PartM c L i v) c.vars.length)
theorem mB_iff {c : Con} {L : Lf} {i : Nat} {v : Int} : mB c L i v = true ↔ Parts (PartM c L i v) c.vars.length := by simp [mB]
def outB (l : List Int) (v : Int) : Bool := !decide (v ∈ l)
theorem filter_out {l w : List Int} {f : Int → Bool} (h : ∀ v ∈ w, (v ∈ l ↔ f v = true)) : w.filter (nq (outB l)) = w.filter f := by
  refine List.filter_congr fun v hv => ?_
  have := h v hv
  cases e : f v <;> simp [nq, outB, this, e]
end Go.Fn
namespace Go.Proofs
open Go.Sv Go Go.Tb Go.Pl Go.Ut Go.Fn
theorem differ1_ok (l : List Int) (hl : l.length ≤ 1000000) (v : Int) : PureF Tryz.prog 98 [iv v, .rop (.ro (l.map iv)) 0] (bov (outB l v)) := by
  have g := slContains_ok l hl v
  refine pure_enter Tryz.func98 rfl (by simp) (fun C hC => ?_)
  simp
  refine callS (g) (by simp) ?_
  simp [outB]
set_option maxRecDepth 10000 in
set_option maxHeartbeats 2000000 in
theorem nDiffer_ok {p : Puz} {n : Nat} {c : Con} (hc : ConOK n c) (k1 : c.kind = 1) {L : Lf} (hL : LOK n L) : EffC Tryz.prog 95 [.ptr 0 0 0, conV c] (NT p L) [1] (RulQ p c L) := by
  have h8 := hc.vl
  have pm : ∀ i v, mB c L i v = true ↔ May c L i v := fun i v => by unfold May; rw [if_pos k1]; exact mB_iff
  have n6 := hL.n6
  have hln := hL.len
  refine eff_enterC Tryz.func95 rfl (by simp) (fun C hC => ?_)
  have hC : C.fx = [0] := hC
  refine CodeJ.wk ?_
  simp only [NT, netV]
  refine CodeJ.seqI (CodeJ.regionI (OpsJ.go ?_))
  simp
  refine CodeJ.frz 2 rfl (by simp) ?_
  simp [frzS, tset]
  refine CodeJ.go ?_
  simp
  refine ⟨by omega, ?_⟩
  refine CodeJ.loopL (ι := LI) (fun ⟨i, ag, N⟩ => ⟨92, [(0, .ptr 0 0 0), (3, .rop (conV c) 0), (6, bov ag), (7, .view 4 0 L.length), (38, ilv c.vars), (39, iv c.vars.length), (40, iv i)], NT p L ++ [none, none, some ⟨1, N.map ilv, false⟩]⟩)
    (fun ⟨i, ag, N⟩ => i ≤ c.vars.length ∧ Sofar c L N ag (fun j => j < i)) (fun ⟨i, ag, N⟩ => c.vars.length - i) ⟨0, false, L⟩ ?_ ?_ ?_
  · exact ⟨Nat.zero_le _, sofar_0 c L⟩
  · simp [leS, hC, NT, netV]
  rintro ⟨i, ag, N⟩ ⟨hi, hs⟩
  have nl : N.length = L.length := hs.len
  simp only [NT, netV, List.cons_append, List.nil_append]
  by_cases hlt : i < c.vars.length
  · obtain ⟨u, eu, hu, lu, u12, u0, ub⟩ := hL.nat hc hlt
    have vi := lget_iv (l := c.vars) hlt
    rw [eu] at vi
    have lL := lget_ilv hu
    have hu' : u < N.length := by omega
    have lN := lget_ilv hu'
    have sub := hs.cut.sub u hu
    have n12 : (gt N u).length ≤ 12 := Nat.le_trans sub.length_le u12
    have sm := hs.mayO hc hL.len hL.asc hlt (mB c L i) fun v _ => pm i v
    have lkN : lk c N i = gt N u := by unfold lk; rw [eu, Int.toNat_natCast]
    rw [eu, lkN, Int.toNat_natCast] at sm
    simp (disch := omega) [hlt, vi, hu, lL]
    repeat (refine And.intro (by omega) ?_)
    refine CodeJ.le (Le.nilCell1 5 1 rfl rfl rfl) ?_
    simp [tset]
    refine CodeJ.loop (ι := LW1) (fun ⟨k, w⟩ => ⟨92, [(0, .ptr 0 0 0), (3, .rop (conV c) 0), (6, bov ag), (7, .view 4 0 L.length), (8, iv i), (9, iv u), (10, .ptr 5 0 0), (38, ilv c.vars), (39, iv c.vars.length), (40, iv i), (51, ilv (gt L u)), (52, iv (gt L u).length), (53, iv k)], NT p L ++ [none, none, some ⟨1, N.map ilv, false⟩, some ⟨1, [.view 6 0 w.length], false⟩, some ⟨1, w.map iv, false⟩]⟩)
      (fun ⟨k, w⟩ => k ≤ (gt L u).length ∧ w = ((gt L u).take k).filter (mB c L i)) (fun ⟨k, w⟩ => (gt L u).length - k) ⟨0, []⟩ ?_ ?_ ?_
    · exact ⟨Nat.zero_le _, by simp⟩
    · simp [leS, hC, NT, netV]
    rintro ⟨k, w⟩ ⟨hk, hw⟩
    simp only [NT, netV, List.cons_append, List.nil_append]
    have wl : w.length ≤ 12 := by
      have := List.length_filter_le (mB c L i) ((gt L u).take k)
      rw [← hw] at this
      simp at this; omega
    by_cases hkl : k < (gt L u).length
    · have lv := lget_iv hkl
      have ft : ((gt L u).take (k + 1)).filter (mB c L i) = if mB c L i (gt (gt L u) k) = true then w ++ [gt (gt L u) k] else w := by
        rw [take_gt hkl, List.filter_append, ← hw]
        by_cases e : mB c L i (gt (gt L u) k) = true <;> simp [e]
      generalize gt (gt L u) k = v at *
      have gm := nMatch_ok p hc hL i hlt v
      simp (disch := omega) [hkl, lv]
      repeat (refine And.intro (by omega) ?_)
      refine callT gm [0, 1] (by simp [NT, netV]) (by simp [NT, netV]) (by simp) (by simp [NT, netV]) (by simp [NT, netV]) ?_
      rintro T y ⟨rfl, b, rfl, hb⟩
      simp [NT, netV]
      refine ⟨fun e => ?_, fun e => ?_⟩
      · rw [if_pos (mB_iff.2 (hb.1 e))] at ft
        exact ⟨⟨by simp [hC], by omega⟩, ⟨k + 1, w ++ [v]⟩, ⟨hkl, ft.symm⟩, Nat.sub_succ_lt_self _ _ hkl, by simp (disch := omega) [leS, hC, w64, NT, netV]⟩
      · rw [if_neg (fun h => by rw [hb.2 (mB_iff.1 h)] at e; cases e)] at ft
        exact ⟨⟨k + 1, w⟩, ⟨hkl, ft.symm⟩, Nat.sub_succ_lt_self _ _ hkl, by simp (disch := omega) [leS, hC, w64, NT, netV]⟩
    · obtain rfl : k = (gt L u).length := by omega
      rw [List.take_length] at hw
      have hin : ∀ v ∈ gt N u, (v ∈ w ↔ mB c L i v = true) := fun v hv => by
        rw [hw, List.mem_filter]; exact ⟨fun h => h.2, fun h => ⟨sub.subset hv, h⟩⟩
      simp
      refine CodeJ.draw (.qs [0, 1, 2, 3, 4, 5, 6, 7] <| .nil) (by kernel_rfl) (by kernel_rfl) (by simp) ?_
      simp (disch := omega) [hu', lN, nl]
      repeat (refine And.intro (by omega) ?_)
      refine ⟨fun q => ⟨hu, ?_⟩, fun q => ?_⟩
      · have nd : (gt N u).Nodup := (hs.asc hL.asc u hu').imp fun h => by omega
        have le := nd_le (l := (gt N u).filter (mB c L i)) (m := w) (List.filter_sublist.nodup nd) fun v hv => (hin v (List.mem_filter.1 hv).1).2 (List.mem_filter.1 hv).2
        rw [decide_eq_true (show ((gt N u).filter (mB c L i)).length < (gt N u).length by omega), Bool.true_or] at sm
        refine callT (slClone_ok (gt N u) (by omega)) [] (by simp) (by simp) (by simp) (by simp) (by simp) ?_
        rintro T y ⟨rfl, rfl⟩
        simp
        refine callFz 6 rfl (by simp) ?_
        simp
        refine callFz 5 rfl (by simp) ?_
        simp
        refine callT (slDelete_ok (gt N u) (by omega) 98 [.rop (.ro (w.map iv)) 0] (by simp) (by simp) (outB w) (fun v _ => differ1_ok w (by omega) v)) [7] (by simp) (by simp) (by simp) (by simp) (by simp) ?_
        rintro T y ⟨m, k, rfl, rfl, hk, ht⟩
        rw [filter_out hin] at ht
        have ht' : List.take k (m.map iv) = ((gt N u).filter (mB c L i)).map iv := by rw [← ht, List.map_take]
        obtain ⟨N2, e2⟩ : ∃ N2, N.set u ((gt N u).filter (mB c L i)) = N2 := ⟨_, rfl⟩
        rw [e2] at sm
        have rr : ∀ σ, renL σ (m.map iv) = m.map iv := fun σ => renL_pure σ _ (by simp)
        have ss : ∀ (es : List SV) (X : Lf), sbL 7 es (X.map ilv) = X.map ilv := fun es X => sbL_pure _ _ _ (by simp)
        simp (disch := omega) [lN, nl, hu', hu, rr]
        repeat (refine And.intro (by omega) ?_)
        refine ⟨⟨i + 1, true, N2⟩, ⟨hlt, sm⟩, Nat.sub_succ_lt_self _ _ hlt, (Le.frz 7 rfl (by simp)).trans (Le.syn ?_)⟩
        simp (disch := omega) [frzS, tset, leS, hC, w64, NT, netV, ht', lset_ilv, e2, rr, ss, hk, -List.map_set]
      · have e : (gt L u).length ≤ w.length → ∀ v ∈ gt L u, mB c L i v = true := fun h => by
          rw [hw] at h
          have := List.filter_sublist.eq_of_length_le h
          exact fun v hv => by rw [← this] at hv; exact (List.mem_filter.1 hv).2
        have sw := hs.wid (D' := fun j => j < i + 1) fun eN j hj => by
          by_cases q' : j < i
          · exact .inl q'
          · have : j = i := by omega
            subst this
            rw [eN] at q
            refine .inr fun v hv => (pm j v).1 ?_
            rw [lu] at hv
            exact e q v hv
        exact ⟨⟨i + 1, ag, N⟩, ⟨hlt, sw⟩, Nat.sub_succ_lt_self _ _ hlt, Le.syn (by simp (disch := omega) [leS, hC, w64, NT, netV])⟩
  · obtain rfl : i = c.vars.length := by omega
    simp
    refine ⟨⟨92, [(4, bov ag)], NT p N⟩, Le.permF (fun k => if k = 0 then 0 else if k = 1 then 4 else k + 1000) (fun k hk => ?_) rfl (fun a b ha hb e => ?_) (fun k hk => ?_) (fun k e hk => ?_) (fun t x hg => ?_), ?_⟩
    · rw [hC] at hk; simp at hk; simp [hk]
    · simp [NT] at ha hb
      by_cases a0 : a = 0 <;> by_cases b0 : b = 0 <;> by_cases a1 : a = 1 <;> by_cases b1 : b = 1 <;> simp_all
    · simp [NT] at hk
      rw [if_neg (by omega), if_neg (by omega)]
      simp
    · match k, hk with
      | 0, hk => simp [NT] at hk; subst hk; simp [renE, netV, nl]
      | 1, hk => simp [NT] at hk; subst hk; simp [renE]
      | k + 2, hk => simp [NT] at hk
    · by_cases e : t = 4
      · subst e
        simp [Go.Sv.get] at hg
        subst hg
        simp [Go.Sv.get]
      · simp [Go.Sv.get, e, show ¬ 4 = t from fun h => e h.symm] at hg
    · simp
      exact ⟨_, _, ⟨N, ag, rfl, rfl, hs.rule fun j hj => hj⟩, rfl, by simp [leM], by simp [NT], .inl rfl⟩
end Go.Proofs

