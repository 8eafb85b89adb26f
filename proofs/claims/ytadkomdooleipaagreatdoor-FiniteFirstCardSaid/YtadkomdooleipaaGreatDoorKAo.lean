/- Whether values keep a constraint: the program's way. A text of the prover's own. -/
import Derived.Test.YtadkomdooleipaaGreatDoorKAn
import Derived.Test.YtadkomdooleipaaGreatDoorKAf
namespace Go.Fn
open Go Go.Sv Go.Pl Go.Proofs Go.Tb Go.Ut
def Bd8 (v : Int) : Prop := -100000000 ≤ v ∧ v ≤ 100000000
theorem mul_bd {a b : Int} (ha : Bd8 a) (hb : Bd8 b) : -10000000000000000 ≤ a * b ∧ a * b ≤ 10000000000000000 := by
  have := mul_between (a := a) hb.1 hb.2
  have := ha.1
  have := ha.2
  omega
theorem dotN_bd {c : Con} {v : List Int} {n : Nat} (h : ∀ i, i < n → Bd8 (gt c.nums i) ∧ Bd8 (gt v i)) : ∀ k, k ≤ n → -(10000000000000000 * (k : Int)) ≤ dotN c v k ∧ dotN c v k ≤ 10000000000000000 * k
  | 0, _ => by simp [dotN, sumN]
  | k + 1, hk => by
    have := dotN_bd h k (by omega)
    have := mul_bd (h k (by omega)).1 (h k (by omega)).2
    simp only [dotN, sumN] at *
    omega
theorem useV_bd {c : Con} {v : List Int} {m : Int} {n : Nat} (h : ∀ i, i < n → 0 ≤ gt c.uses i ∧ gt c.uses i ≤ 100000000) : ∀ k, k ≤ n → 0 ≤ useV c v m k ∧ useV c v m k ≤ 100000000 * k
  | 0, _ => by simp [useV, sumN]
  | k + 1, hk => by
    have := useV_bd (c := c) (v := v) (m := m) h k (by omega)
    have := h k (by omega)
    simp only [useV, sumN] at *
    split <;> omega
theorem args_bd {n : Nat} {c : Con} (hc : ConOK n c) {x : List Int} (hx : x.length = n) (xb : ∀ i, i < x.length → Bd8 (gt x i)) : ∀ i, i < (argsOf c x).length → Bd8 (gt (argsOf c x) i) := fun i hi => by
  rw [args_len] at hi
  rw [gt_args hi]; exact xb _ (by rw [hx]; exact hc.at hi)
theorem nodup_dif {m : List Int} (hs : SrtU m m.length) : m.Nodup ↔ Dif m m.length := by
  constructor
  · intro h j h1 h2 e
    have := List.pairwise_iff_getElem.1 h (j - 1) j (by omega) h2 (by omega)
    rw [gt_get (by omega), gt_get h2] at this
    exact this e.symm
  · intro h
    refine List.pairwise_iff_getElem.2 fun i j hi hj hij => ?_
    rw [gt_get hi, gt_get hj]
    have h1 := h j (by omega) hj
    have h2 : gt m (j - 1) ≤ gt m j := hs (j - 1) j (by omega) hj
    have h3 : gt m i ≤ gt m (j - 1) := by
      by_cases e : i = j - 1
      · rw [e]; exact Int.le_refl _
      · exact hs i (j - 1) (by omega) (by omega)
    omega
end Go.Fn
namespace Go.Proofs
open Go.Sv Go Go.Tb Go.Pl Go.Ut Go.Fn
set_option maxRecDepth 10000 in
/-- of lists: does a function say yes of one? -/
theorem slAny_ok (L : List (List Int)) (hl : L.length ≤ 1000000) (F : FuncId) (caps : List SV) (hc : SV.pureL caps = true) (hF : callOK Tryz.prog F) (q : List Int → Bool) (g : ∀ r ∈ L, PureF Tryz.prog F (ilv r :: caps) (bov (q r))) :
    PureF Tryz.prog 43 [.ro (L.map ilv), .fnv F [] caps] (bov (L.any q)) := by
  have gi : PureC Tryz.prog 51 [.ro (L.map ilv), .fnv F [] caps] (fun x => ∃ n : Int, x = iv n ∧ (0 ≤ n ↔ L.any q = true)) := by
    obtain ⟨b, hb⟩ : ∃ b, L.any q = b := ⟨_, rfl⟩
    rw [hb]
    refine pure_enter Tryz.func51 rfl (by simp) (fun C hC => ?_)
    simp [hc]
    refine CodeJ.loop (ι := Nat) (fun i => ⟨19, [(0, .ro (L.map ilv)), (1, .fnv F [] caps), (7, iv L.length), (8, iv i)], []⟩)
      (fun i => i ≤ L.length ∧ ∀ j, j < i → q (gt L j) = false) (fun i => L.length - i) 0 ?_ ?_ ?_
    · exact ⟨by omega, fun j hj => by omega⟩
    · simp [leS, hC]
    rintro i ⟨hi, hf⟩
    by_cases hlt : i < L.length
    · have gg := g _ (gt_mem hlt)
      have yes : q (gt L i) = true → b = true := fun h => by rw [← hb]; exact List.any_eq_true.2 ⟨_, gt_mem hlt, h⟩
      have st := @step_lt (fun j => q (gt L j) = false) i hf
      have lv := lget_ilv hlt
      generalize gt L i = r at *
      simp (disch := omega) [hlt, lv, hF]
      repeat (refine And.intro (by omega) ?_)
      refine callS gg (by simp [hc]) ?_
      simp
      refine ⟨fun e => ?_, fun e => ?_⟩
      · exact ⟨_, by simp, i, rfl, ⟨fun _ => yes e, fun _ => by omega⟩⟩
      · exact ⟨i + 1, ⟨by omega, st e⟩, by omega, by simp (disch := omega) [leS, hC, w64]⟩
    · obtain rfl : i = L.length := by omega
      simp
      refine ⟨_, by simp, -1, rfl, ⟨fun h => by omega, fun h => ?_⟩⟩
      rw [← hb, List.any_eq_true] at h
      obtain ⟨r, hr, h⟩ := h
      obtain ⟨j, hj, rfl⟩ := List.getElem_of_mem hr
      rw [gt_get hj, hf j hj] at h; cases h
  obtain ⟨b, hb⟩ : ∃ b, L.any q = b := ⟨_, rfl⟩
  rw [hb] at gi ⊢
  refine pure_enter Tryz.func43 rfl (by simp) (fun C hC => ?_)
  simp [hc]
  refine callP gi (SubL_self _ _ (by simp [hc])) (fun x hx => ?_)
  obtain ⟨n, rfl, hn⟩ := hx
  simp [hn]
theorem keeps1_ok (v r : List Int) (hr : r.length ≤ 1000000) : PureF Tryz.prog 47 [ilv r, .rop (.ro (v.map iv)) 0] (bov (decide (r = v))) := by
  refine pure_enter Tryz.func47 rfl (by simp) (fun C hC => ?_)
  simp
  refine callS (slEqual_ok r v hr) (by simp) ?_
  simp
/-- a truth that stands for what is to be shown -/
def TB (P : Prop) (y : SV) : Prop := ∃ b : Bool, y = .val (.bool b) ∧ (b = true ↔ P)
theorem tb_mk {M : Tab} {b : Bool} {P : Prop} (h : b = true ↔ P) : Sv.fin M (.val (.bool b)) (TB P) := ⟨_, by simp, b, rfl, h⟩
set_option maxRecDepth 10000 in
set_option maxHeartbeats 2000000 in
theorem qkeeps_ok {n : Nat} (c : Con) (hf : FewC c) (hc : ConOK n c) (x : List Int) (hx : x.length = n) (xb : ∀ i, i < x.length → Bd8 (gt x i)) : PureC Tryz.prog 33 [conV c, .ro (x.map iv)] (TB (keptP c (argsOf c x))) := by
  have h1 := hf.v
  have ha := args_bd hc hx xb
  have al := args_len c x
  have ev : ∀ i, i < c.vars.length → gt (argsOf c x) i = gt x (gt c.vars i).toNat := fun i hi => gt_args hi
  have vi : ∀ i, i < c.vars.length → 0 ≤ gt c.vars i ∧ gt c.vars i < x.length := fun i hi => by rw [hx]; exact hc.va i hi
  refine pure_enterJ Tryz.func33 rfl (by simp) (fun C hC => ?_)
  generalize argsOf c x = v at *
  refine CodeJ.seqI (CodeJ.regionI (OpsJ.go ?_))
  simp
  refine CodeJ.frz 0 rfl (by simp) ?_
  simp [frzS, tset]
  refine CodeJ.seqI (CodeJ.regionI (OpsJ.go ?_))
  simp
  refine CodeJ.le (Le.nilCell1 1 1 rfl rfl rfl) ?_
  simp [tset]
  refine CodeJ.cutAt 1 (fun st => st = ⟨156, [(1, .ro (x.map iv)), (2, .rop (conV c) 0), (5, .ptr 1 0 0)], [none, some ⟨1, [.view 2 0 v.length], false⟩, some ⟨1, v.map iv, false⟩]⟩) ?_ ?_
  · simp only [takeC_succ, takeC_zero]
    simp
    refine CodeJ.loop (ι := Nat × List Int) (fun ⟨i, w⟩ => ⟨156, [(1, .ro (x.map iv)), (2, .rop (conV c) 0), (5, .ptr 1 0 0), (19, .ro (c.vars.map iv)), (20, iv c.vars.length), (21, iv i)], [none, some ⟨1, [.view 2 0 w.length], false⟩, some ⟨1, w.map iv, false⟩]⟩)
      (fun ⟨i, w⟩ => i ≤ c.vars.length ∧ w = v.take i ∧ w.length = i) (fun ⟨i, w⟩ => c.vars.length - i) (0, []) ?_ ?_ ?_
    · simp
    · simp [leS, hC]
    rintro ⟨i, w⟩ ⟨hi, hw, hwl⟩
    by_cases hlt : i < c.vars.length
    · have lv := lget_iv hlt
      have vi' := vi i hlt
      have lx := lget_iv (l := x) (i := (gt c.vars i).toNat) (by omega)
      have e1 := ev i hlt
      have tk : v.take (i + 1) = v.take i ++ [gt v i] := take_gt (by omega)
      rw [e1, ← hw] at tk
      generalize gt c.vars i = k at *
      simp (disch := omega) [hlt, lv]
      repeat (refine And.intro (by omega) ?_)
      refine CodeJ.draw (.qs [0, 1, 2, 3, 4] <| .l 5 [] <| .l 6 [1000000] <| .l 7 [1, 1000000] <| .nil) (by kernel_rfl) (by kernel_rfl) (by simp) ?_
      simp (disch := omega) [lx, hwl]
      repeat (refine And.intro (by omega) ?_)
      exact ⟨⟨by simp [hC], by omega⟩, i + 1, w ++ [gt x k.toNat], ⟨by omega, tk.symm, by simp [hwl]⟩, by omega, by simp (disch := omega) [leS, hC, w64, hwl]⟩
    · obtain rfl : i = c.vars.length := by omega
      have : w = v := by rw [hw, ← al, List.take_length]
      subst this
      simp
      exact ⟨rfl, by simp [leF, Go.Sv.get], leM_self _, .inl rfl⟩
  rintro st rfl
  simp only [dropC_succ, dropC_zero]
  refine CodeJ.frz 2 rfl (by simp) ?_
  simp [frzS, tset]
  refine CodeJ.frz 1 rfl (by simp) ?_
  simp [frzS, tset]
  have lv := fun (i : Nat) (hi : i < v.length) => lget_iv (l := v) hi
  have ln := fun (i : Nat) (hi : i < c.nums.length) => lget_iv (l := c.nums) hi
  have lu := fun (i : Nat) (hi : i < c.uses.length) => lget_iv (l := c.uses) hi
  refine CodeJ.go ?_
  simp
  refine ⟨fun k1 => ?_, fun k1 => ⟨fun k2 => ?_, fun k2 => ⟨fun k3 => ?_, fun k3 => ⟨fun k4 => ?_, fun k4 => ?_⟩⟩⟩⟩
  · -- all differ
    have kp : keptP c v ↔ v.Nodup := by unfold keptP; rw [if_pos k1]
    refine callT (slClone_ok v (by omega)) [] (by simp) (by simp) (by simp) (by simp) (by simp) ?_
    rintro T y ⟨rfl, rfl⟩
    simp
    refine callT (slSort_ok v (by omega)) [3] (by simp) (by simp) (by simp) (by simp) (by simp) ?_
    rintro T y ⟨m, hp, hs, rfl, rfl⟩
    have hml := hp.length_eq
    simp
    refine CodeJ.draw (.qs [0] <| .q 3 [3] <| .qs [4] <| .l 1 [3] <| .qs [2, 5, 6] <| .nil) (by kernel_rfl) (by kernel_rfl) (by simp) ?_
    simp
    have cq := slCompact_ok m (by omega)
    rw [hml] at cq
    refine callT cq [3] (by simp) (by simp) (by simp) (by simp) (by simp) ?_
    rintro T y ⟨m', k, rfl, rfl, hk⟩
    simp
    refine tb_mk ?_
    rw [decide_eq_true_eq, kp, ← hp.nodup_iff, nodup_dif hs, ← hk]
    omega
  · -- a sum
    have kp : keptP c v ↔ dotN c v v.length = c.limit := by unfold keptP; rw [if_neg (by omega), if_pos k2]
    have n2 := hc.k2 k2
    have nb : ∀ i, i < v.length → Bd8 (gt c.nums i) ∧ Bd8 (gt v i) := fun i hi => ⟨hc.nu i (by omega), ha i hi⟩
    refine CodeJ.loop (ι := Nat) (fun i => ⟨156, [(2, .rop (conV c) 0), (5, .rop (.ro (v.map iv)) 0), (9, iv (dotN c v i)), (50, .ro (c.nums.map iv)), (51, iv c.nums.length), (52, iv i)], []⟩)
      (fun i => i ≤ c.nums.length) (fun i => c.nums.length - i) 0 (by omega) ?_ ?_
    · simp [leS, hC, dotN, sumN]
    rintro i hi
    by_cases hlt : i < c.nums.length
    · have l1 := ln i hlt
      have l2 := lv i (by omega)
      have b1 := mul_bd (nb i (by omega)).1 (nb i (by omega)).2
      have b2 := dotN_bd nb i (by omega)
      have e : dotN c v (i + 1) = dotN c v i + gt c.nums i * gt v i := rfl
      simp (disch := omega) [hlt, l1, l2, w64]
      repeat (refine And.intro (by omega) ?_)
      exact ⟨i + 1, by omega, by omega, by simp (disch := omega) [leS, hC, w64, e]⟩
    · obtain rfl : i = c.nums.length := by omega
      simp
      refine tb_mk ?_
      rw [decide_eq_true_eq, kp, n2, ← al]
  · -- a row
    have kp : keptP c v ↔ v ∈ c.rows := by unfold keptP; rw [if_neg (by omega), if_neg (by omega), if_pos k3]
    have r1 := hf.r
    refine callS (slAny_ok c.rows (by omega) 47 [.rop (.ro (v.map iv)) 0] rfl (by simp) (fun r => decide (r = v)) (fun r hr => keeps1_ok v r (by have := hf.l r hr; omega))) (by simp) ?_
    have e : (c.rows.any fun r => decide (r = v)) = true ↔ v ∈ c.rows := by
      rw [List.any_eq_true]
      exact ⟨fun ⟨r, h1, h2⟩ => by rw [decide_eq_true_eq] at h2; exact h2 ▸ h1, fun h => ⟨v, h, by simp⟩⟩
    generalize (c.rows.any fun r => decide (r = v)) = b at *
    simp
    exact tb_mk (e.trans kp.symm)
  · -- a place
    have kp : keptP c v ↔ (0 ≤ gt v 0 ∧ gt v 0 < (v.length : Int) - 2 ∧ gt v (2 + (gt v 0).toNat) = gt v 1) := by unfold keptP; rw [if_neg (by omega), if_neg (by omega), if_neg (by omega), if_pos k4]
    have n4 := hc.k4 k4
    have l0 := lv 0 (by omega)
    have l1 := lv 1 (by omega)
    simp [l0]
    refine ⟨by omega, ?_⟩
    refine CodeJ.draw (.qs [0, 1, 2, 3, 4, 5, 6, 7, 8, 9, 10, 11, 12, 13, 14, 15, 16, 17, 18, 19, 20] <| .nil) (by kernel_rfl) (by kernel_rfl) (by simp) ?_
    have b0 := ha 0 (by omega)
    unfold Bd8 at b0
    by_cases q1 : 0 ≤ gt v 0
    · by_cases q2 : gt v 0 < (v.length : Int) - 2
      · have l2 := lv (2 + (gt v 0).toNat) (by omega)
        have e8 : (2 + gt v 0).toNat = 2 + (gt v 0).toNat := by omega
        simp (disch := omega) [q1, q2, l0, l1, l2, w64, e8]
        repeat (refine And.intro (by omega) ?_)
        exact tb_mk (by rw [kp, decide_eq_true_eq]; exact ⟨fun h => ⟨q1, q2, h⟩, fun h => h.2.2⟩)
      · simp (disch := omega) [q1, q2, l0, l1, w64]
        repeat (refine And.intro (by omega) ?_)
        exact tb_mk (by rw [kp]; exact ⟨fun h => (by cases h), fun h => absurd h.2.1 q2⟩)
    · simp (disch := omega) [q1, l0, l1, w64]
      repeat (refine And.intro (by omega) ?_)
      exact tb_mk (by rw [kp]; exact ⟨fun h => (by cases h), fun h => absurd h.1 q1⟩)
  · -- a share
    have k5 : c.kind = 5 := by have := hc.kd; omega
    have kp : keptP c v ↔ ∀ i, i < v.length → gt c.nums i ≠ 0 → gt c.uses i ≠ 0 → useV c v (gt v i) v.length ≤ c.limit := by unfold keptP; rw [if_neg (by omega), if_neg (by omega), if_neg (by omega), if_neg (by omega)]
    obtain ⟨n5, u5, p5⟩ := hc.k5 k5
    have ub : ∀ i, i < v.length → 0 ≤ gt c.uses i ∧ gt c.uses i ≤ 100000000 := fun i hi => ⟨(p5 i (by omega)).2, (hc.us i (by omega)).2⟩
    refine CodeJ.loop (ι := Nat) (fun i => ⟨156, [(2, .rop (conV c) 0), (5, .rop (.ro (v.map iv)) 0), (101, .ro (v.map iv)), (102, iv v.length), (103, iv i)], []⟩)
      (fun i => i ≤ v.length ∧ ∀ j, j < i → gt c.nums j ≠ 0 → gt c.uses j ≠ 0 → useV c v (gt v j) v.length ≤ c.limit) (fun i => v.length - i) 0 ?_ ?_ ?_
    · exact ⟨by omega, fun j hj => by omega⟩
    · simp [leS, hC]
    rintro i ⟨hi, hd⟩
    by_cases hlt : i < v.length
    · have l1 := lv i hlt
      have l2 := ln i (by omega)
      have l3 := lu i (by omega)
      have bi := ha i hlt
      have st := @step_lt (fun j => gt c.nums j ≠ 0 → gt c.uses j ≠ 0 → useV c v (gt v j) v.length ≤ c.limit) i hd
      have b1 : i < c.nums.length := by omega
      have b2 : i < c.uses.length := by omega
      simp (disch := omega) [hlt, l1, l2, l3, b1, b2]
      repeat (refine And.intro (by omega) ?_)
      refine ⟨fun z1 => ⟨fun z2 => ?_, fun z2 => ?_⟩, fun z1 => ?_⟩
      · exact ⟨i + 1, ⟨by omega, st fun _ h => absurd z2 h⟩, by omega, by simp (disch := omega) [leS, hC, w64]⟩
      · refine CodeJ.loop (ι := Nat) (fun k => ⟨156, [(2, .rop (conV c) 0), (5, .rop (.ro (v.map iv)) 0), (101, .ro (v.map iv)), (102, iv v.length), (103, iv i), (13, iv i), (14, iv (gt v i)), (15, iv (useV c v (gt v i) k)), (122, .ro (v.map iv)), (123, iv v.length), (124, iv k)], []⟩)
          (fun k => k ≤ v.length) (fun k => v.length - k) 0 (by omega) ?_ ?_
        · simp [leS, hC, useV, sumN]
        rintro k hk
        by_cases hkl : k < v.length
        · have l4 := lv k hkl
          have l5 := ln k (by omega)
          have l6 := lu k (by omega)
          have b3 : k < c.nums.length := by omega
          have b4 : k < c.uses.length := by omega
          have bk := ha k hkl
          have bn := hc.nu k b3
          have bu := useV_bd (c := c) (v := v) (m := gt v i) ub k (by omega)
          have bq := ub k hkl
          have e : useV c v (gt v i) (k + 1) = useV c v (gt v i) k + if gt v k ≤ gt v i ∧ gt v i < gt v k + gt c.nums k then gt c.uses k else 0 := rfl
          unfold Bd8 at bk
          simp (disch := omega) [hkl, l4, l5, l6, b3, b4, w64]
          repeat (refine And.intro (by omega) ?_)
          refine ⟨fun z3 => ⟨fun z4 => ?_, fun z4 => ?_⟩, fun z3 => ?_⟩
          · rw [if_pos ⟨z3, z4⟩] at e
            exact ⟨k + 1, by omega, by omega, by simp (disch := omega) [leS, hC, w64, e]⟩
          · rw [if_neg (by omega)] at e
            exact ⟨k + 1, by omega, by omega, by simp (disch := omega) [leS, hC, w64, e]⟩
          · rw [if_neg (by omega)] at e
            exact ⟨k + 1, by omega, by omega, by simp (disch := omega) [leS, hC, w64, e]⟩
        · obtain rfl : k = v.length := by omega
          simp
          refine ⟨fun z3 => ?_, fun z3 => ?_⟩
          · exact tb_mk (by rw [kp]; exact ⟨fun h => (by cases h), fun h => absurd (h i hlt z1 z2) (by omega)⟩)
          · exact ⟨i + 1, ⟨by omega, st fun _ _ => z3⟩, by omega, by simp (disch := omega) [leS, hC, w64]⟩
      · exact ⟨i + 1, ⟨by omega, st fun h _ => absurd z1 h⟩, by omega, by simp (disch := omega) [leS, hC, w64]⟩
    · obtain rfl : i = v.length := by omega
      simp
      exact tb_mk ⟨fun _ => kp.2 hd, fun _ => rfl⟩
end Go.Proofs

