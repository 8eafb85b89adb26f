/- Copies of slices, sorted slices, slices without neighbours that are the same. A text of the prover's own. -/
import Derived.Test.YtadkomdooleipaaGreatDoorKAm
import Derived.Test.YtadkomdooleipaaGreatDoorKAh
namespace Go.Proofs
open Go.Sv Go Go.Tb Go.Pl Go.Ut Go.Fn
set_option maxRecDepth 10000 in
theorem slClone_ok (l : List Int) (hl : l.length ≤ 1000000) : EffC Tryz.prog 24 [.ro (l.map iv)] [] [] (fun T y => T = [some ⟨1, l.map iv, false⟩] ∧ y = .view 0 0 l.length) := by
  refine eff_enterC Tryz.func24 rfl (by simp) (fun C hC => ?_)
  refine CodeJ.seqI (CodeJ.regionI (OpsJ.go ?_))
  simp
  refine CodeJ.seqI (CodeJ.seqI (CodeJ.regionI (OpsJ.step rfl ?_)))
  simp
  refine OpsJ.nilRo (es := l.map iv) (.inl rfl) (by simp) (Tryz.ty26) (by simp) (fun b hb => ?_)
  refine OpsJ.go ?_
  simp
  cases b with
  | true =>
    have he : l = [] := by
      cases l with
      | nil => rfl
      | cons a l => exact absurd (hb (by simp)) (by simp)
    subst he
    refine CodeJ.condI true (by simp) (fun _ => ?_) (fun q => by cases q)
    refine CodeJ.seqI (CodeJ.regionI (OpsJ.go ?_))
    simp
    refine CodeJ.nil 2 1 rfl ?_
    refine CodeJ.go ?_
    simp
    exact ⟨_, _, ⟨rfl, rfl⟩, rfl, by simp [leM], .inl rfl⟩
  | false =>
    refine CodeJ.condI false (by simp) (fun q => by cases q) (fun _ => ?_)
    refine CodeJ.go ?_
    simp
    refine CodeJ.go ?_
    simp
    refine ⟨⟨by simp [hC], by omega⟩, _, _, ⟨rfl, rfl⟩, rfl, by simp [leM], .inl rfl⟩
theorem lset_iv (m : List Int) (j : Nat) (x : Int) : lset (m.map iv) j (.val (.int .i64 x)) = (m.set j x).map iv := by
  rw [lset_eq, List.map_set]; rfl
/-! sorting -/
theorem isNaN_ok (x : Int) : PureF Tryz.prog 70 [iv x] (bov false) := by
  refine pure_enter Tryz.func70 rfl (by simp) (fun C hC => ?_)
  simp
theorem cmpLess_ok (x y : Int) : PureF Tryz.prog 60 [iv x, iv y] (bov (decide (x < y))) := by
  refine pure_enter Tryz.func60 rfl (by simp) (fun C hC => ?_)
  simp
  refine callS (isNaN_ok x) (by simp) ?_
  simp
  done
theorem fin_iv {M : Tab} {k : Int} : Sv.fin M (.val (.int .i64 k)) (fun x => ∃ k : Int, x = .val (.int .i64 k)) := ⟨_, by simp, k, rfl⟩
theorem bitsLen_ok (n : Nat) (h : n ≤ 8) : PureC Tryz.prog 53 [.val (.int .u64 n)] (fun x => ∃ k : Int, x = iv k) := by
  have g : PureC Tryz.prog 64 [.val (.int .u64 n)] (fun x => ∃ k : Int, x = iv k) := by
    refine pure_enter Tryz.func64 rfl (by simp) (fun C hC => ?_)
    match n, h with
    | 0, _ | 1, _ | 2, _ | 3, _ | 4, _ | 5, _ | 6, _ | 7, _ | 8, _ => simp; exact ⟨of_decide_eq_true (by kernel_rfl), fin_iv⟩
    | n + 9, h => omega
  refine pure_enter Tryz.func53 rfl (by simp) (fun C hC => ?_)
  simp
  refine callP g (SubL_self _ _ (by simp)) (fun x hx => ?_)
  obtain ⟨k, rfl⟩ := hx
  simp
  exact fin_iv
/-- the first i are in order -/
def SrtU (m : List Int) (i : Nat) : Prop := ∀ a b, a < b → b < i → gt m a ≤ gt m b
def SrtB (m : List Int) (i j : Nat) : Prop := ∀ a b, a < b → b ≤ i → b ≠ j → gt m a ≤ gt m b
theorem srt_swap {m : List Int} {i j : Nat} (hi : i < m.length) (hj : 0 < j) (hji : j ≤ i) (h : SrtB m i j) (hlt : gt m j < gt m (j - 1)) : SrtB ((m.set j (gt m (j - 1))).set (j - 1) (gt m j)) i (j - 1) := by
  have g : ∀ a, a < m.length → gt ((m.set j (gt m (j - 1))).set (j - 1) (gt m j)) a = if j - 1 = a then gt m j else if j = a then gt m (j - 1) else gt m a := fun a ha => by
    rw [gt_set (by simpa using ha), gt_set ha]
  intro a b hab hbi hbj
  have gb := g b (by omega)
  rw [if_neg (fun e => hbj e.symm)] at gb
  rw [g a (by omega), gb]
  by_cases e1 : j - 1 = a
  · rw [if_pos e1]
    by_cases e2 : j = b
    · rw [if_pos e2]; omega
    · rw [if_neg e2]; exact h j b (by omega) hbi (by omega)
  · rw [if_neg e1]
    by_cases e2 : j = a
    · rw [if_pos e2, if_neg (by omega)]; exact h (j - 1) b (by omega) hbi (by omega)
    · rw [if_neg e2]
      by_cases e3 : j = b
      · rw [if_pos e3]
        by_cases e4 : a = j - 1
        · exact absurd e4.symm e1
        · exact h a (j - 1) (by omega) (by omega) (by omega)
      · rw [if_neg e3]; exact h a b hab hbi (by omega)
theorem srt_done {m : List Int} {i j : Nat} (hji : j ≤ i) (h : SrtB m i j) (hd : j = 0 ∨ gt m (j - 1) ≤ gt m j) : SrtU m (i + 1) := by
  intro a b hab hb
  by_cases e : b = j
  · subst e
    have := hd.resolve_left (by omega)
    by_cases e2 : a = b - 1
    · subst e2; exact this
    · have := h a (b - 1) (by omega) (by omega) (by omega); omega
  · exact h a b hab (by omega) e
theorem perm_swap {m : List Int} {j k : Nat} (hj : j < m.length) (hk : k < m.length) : ((m.set j (gt m k)).set k (gt m j)).Perm m := by
  have := List.set_set_perm hj hk
  rw [gt_get hj, gt_get hk] at this; exact this
set_option maxRecDepth 10000 in
theorem slInsert_ok (l : List Int) (hl : l.length ≤ 8) : EffC Tryz.prog 54 [.view 0 0 l.length, iv 0, iv l.length] [some ⟨1, l.map iv, false⟩] [] (fun T y => ∃ m, m.Perm l ∧ SrtU m m.length ∧ T = [some ⟨1, m.map iv, false⟩] ∧ y = .tup []) := by
  refine eff_enterC Tryz.func54 rfl (by simp) (fun C hC => ?_)
  refine CodeJ.go ?_
  simp (disch := omega) [w64]
  repeat (refine And.intro (by omega) ?_)
  refine CodeJ.loop (ι := Nat × List Int) (fun ⟨i, m⟩ => ⟨49, [(0, .view 0 0 l.length), (1, iv 0), (2, iv l.length), (6, iv i)], [some ⟨1, m.map iv, false⟩]⟩)
    (fun ⟨i, m⟩ => 1 ≤ i ∧ m.Perm l ∧ m.length = l.length ∧ (i ≤ m.length ∨ m.length = 0 ∧ i = 1) ∧ SrtU m i) (fun ⟨i, m⟩ => l.length - i) (1, l) ?_ ?_ ?_
  · exact ⟨by omega, List.Perm.refl _, rfl, by omega, fun a b h1 h2 => by omega⟩
  · simp [leS, hC]
  rintro ⟨i, m⟩ ⟨h1, hp, hm, hi, hs⟩
  by_cases hlt : i < l.length
  · have hlt' : (i : Int) < l.length := by omega
    simp (disch := omega) [hlt']
    repeat (refine And.intro (by omega) ?_)
    refine CodeJ.loop (ι := Nat × List Int) (fun ⟨j, m⟩ => ⟨49, [(0, .view 0 0 l.length), (1, iv 0), (2, iv l.length), (6, iv i), (7, iv j)], [some ⟨1, m.map iv, false⟩]⟩)
      (fun ⟨j, m⟩ => j ≤ i ∧ m.Perm l ∧ m.length = l.length ∧ SrtB m i j) (fun ⟨j, m⟩ => j) (i, m) ?_ ?_ ?_
    · exact ⟨by omega, hp, hm, fun a b h1 h2 h3 => hs a b h1 (by omega)⟩
    · simp [leS, hC]
    rintro ⟨j, m⟩ ⟨hj, hp, hm, hs⟩
    have lj := lget_iv (l := m) (i := j) (by omega)
    have lp : 0 < j → lget (m.map iv) (j - 1) = iv (gt m (j - 1)) := fun q => lget_iv (by omega)
    simp
    refine CodeJ.draw (.qs [0, 1, 2, 3, 4, 5, 6, 7, 8, 9, 10, 11, 12] <| .l 13 [] <| .qs [14] <| .nil) (by kernel_rfl) (by kernel_rfl) (by simp) ?_
    by_cases j0 : j = 0
    · subst j0
      simp (disch := omega) []
      repeat (refine And.intro (by omega) ?_)
      exact ⟨i + 1, m, ⟨by omega, hp, hm, by omega, srt_done (by omega) hs (.inl rfl)⟩, by omega, by simp (disch := omega) [leS, hC, w64]⟩
    · have jp : 0 < j := by omega
      have e8 : ((j : Int) - 1).toNat = j - 1 := by omega
      have lp' := lp (by omega)
      simp (disch := omega) [jp, j0, w64, e8, lj, lp', hm]
      repeat (refine And.intro (by omega) ?_)
      refine callS (cmpLess_ok _ _) (by simp) ?_
      simp
      refine ⟨fun q => ?_, fun q => ?_⟩
      · refine CodeJ.draw (.qs [0, 1, 2, 3, 4, 5, 6, 7, 8, 9, 10, 11, 12, 13, 14] <| .l 15 [0] <| .qs [16] <| .l 17 [0] <| .nil) (by kernel_rfl) (by kernel_rfl) (by simp) ?_
        have lg : lget ((m.set j (gt m (j - 1))).map iv) (j - 1) = iv (gt m (j - 1)) := by
          rw [lget_iv (by simp; omega), gt_set (by omega), if_neg (by omega)]
        simp (disch := omega) [w64, e8, lj, lp', hm, lset_iv, lg, -List.map_set]
        repeat (refine And.intro (by omega) ?_)
        refine ⟨j - 1, _, ⟨by omega, (perm_swap (by omega) (by omega)).trans hp, by simp [hm], srt_swap (by omega) (by omega) hj hs q⟩, by omega, ?_⟩
        simp (disch := omega) [leS, hC, w64, -List.map_set]; omega
      · exact ⟨i + 1, m, ⟨by omega, hp, hm, by omega, srt_done (by omega) hs (.inr q)⟩, by omega, by simp (disch := omega) [leS, hC, w64]⟩
  · have hlt' : ¬ (i : Int) < l.length := by omega
    simp [hlt']
    refine ⟨_, _, ⟨m, hp, ?_, rfl, rfl⟩, rfl, by simp [leM], by simp, .inl rfl⟩
    intro a b h1 h2
    exact hs a b h1 (by omega)
theorem slSort_ok (l : List Int) (hl : l.length ≤ 8) : EffC Tryz.prog 45 [.view 0 0 l.length] [some ⟨1, l.map iv, false⟩] [] (fun T y => ∃ m, m.Perm l ∧ SrtU m m.length ∧ T = [some ⟨1, m.map iv, false⟩] ∧ y = .tup []) := by
  have hq : ∀ k : Int, EffC Tryz.prog 52 [.view 0 0 l.length, iv 0, iv l.length, iv k] [some ⟨1, l.map iv, false⟩] [] (fun T y => ∃ m, m.Perm l ∧ SrtU m m.length ∧ T = [some ⟨1, m.map iv, false⟩] ∧ y = .tup []) := fun k => by
    have e : (l.length : Int) ≤ 12 := by omega
    refine eff_enterC Tryz.func52 rfl (by simp) (fun C hC => ?_)
    refine CodeJ.go ?_
    simp
    refine CodeJ.loop (ι := Unit) (fun _ => ⟨134, [(0, .view 0 0 l.length), (1, iv 0), (2, iv l.length)], [some ⟨1, l.map iv, false⟩]⟩) (fun _ => True) (fun _ => 0) () trivial ?_ ?_
    · simp [leS, hC]
    rintro ⟨⟩ -
    simp (disch := omega) [w64, e]
    repeat (refine And.intro (by omega) ?_)
    refine callT (slInsert_ok l hl) [0] (by simp) (by simp) (by simp) (by simp) (by simp) ?_
    rintro T y ⟨m, hp, hs, rfl, rfl⟩
    simp
    exact ⟨_, _, ⟨m, hp, hs, rfl, rfl⟩, rfl, by simp [leM], by simp, .inl rfl⟩
  refine eff_enterC Tryz.func45 rfl (by simp) (fun C hC => ?_)
  refine CodeJ.go ?_
  simp (disch := omega) [w64, wu64]
  repeat (refine And.intro (by omega) ?_)
  refine callP (bitsLen_ok l.length hl) (SubL_self _ _ rfl) (fun x hx => ?_)
  obtain ⟨k, rfl⟩ := hx
  simp
  refine callT (hq k) [0] (by simp) (by simp) (by simp) (by simp) (by simp) ?_
  rintro T y ⟨m, hp, hs, rfl, rfl⟩
  simp
  exact ⟨_, _, ⟨m, hp, hs, rfl, rfl⟩, rfl, by simp [leM], by simp, .inl rfl⟩
/-! without neighbours that are the same -/
def Dif (m : List Int) (i : Nat) : Prop := ∀ j, 0 < j → j < i → gt m j ≠ gt m (j - 1)
def CmpQ (l : List Int) (T : Tab) (y : SV) : Prop := ∃ (m : List Int) (k : Nat), T = [some ⟨1, m.map iv, false⟩] ∧ y = .view 0 0 k ∧ (k = l.length ↔ Dif l l.length)
set_option maxRecDepth 10000 in
theorem slCompact_ok (l : List Int) (hl : l.length ≤ 1000000) : EffC Tryz.prog 46 [.view 0 0 l.length] [some ⟨1, l.map iv, false⟩] [] (CmpQ l) := by
  refine eff_enterC Tryz.func46 rfl (by simp) (fun C hC => ?_)
  refine CodeJ.go ?_
  simp
  by_cases h2 : l.length < 2
  · have : (l.length : Int) < 2 := by omega
    refine ⟨fun _ => ?_, fun q => by omega⟩
    refine ⟨_, _, ⟨l, l.length, rfl, rfl, ⟨fun _ j h1 h2 => by omega, fun _ => rfl⟩⟩, rfl, by simp [leM], by simp, .inl rfl⟩
  refine ⟨fun q => by omega, fun _ => ?_⟩
  refine CodeJ.loopC (ι := Nat) (fun k => ⟨61, [(0, .view 0 0 l.length), (3, iv k)], [some ⟨1, l.map iv, false⟩]⟩)
    (fun k => 1 ≤ k ∧ k ≤ l.length ∧ Dif l k) (fun k => l.length - k) 1 ?_ ?_ ?_
  · exact ⟨by omega, by omega, fun j h1 h2 => by omega⟩
  · simp [leS, hC]
  rintro k ⟨k1, k2, hd⟩
  by_cases hk : k < l.length
  · have e8 : ((k : Int) - 1).toNat = k - 1 := by omega
    have l1 := lget_iv (l := l) (i := k) hk
    have l2 := lget_iv (l := l) (i := k - 1) (by omega)
    refine CodeJ.seqI (CodeJ.seqI (CodeJ.regionI (OpsJ.go ?_)))
    simp
    refine CodeJ.condI true (by simp [hk]) (fun _ => ?_) (fun q => by cases q)
    refine CodeJ.go ?_
    simp
    refine CodeJ.seqI (CodeJ.blockI (CodeJ.seqI ?_))
    refine CodeJ.draw (.qs [0, 1, 2, 3, 4, 5, 6, 7, 8, 9] <| .nil) (by kernel_rfl) (by kernel_rfl) (by simp) ?_
    simp (disch := omega) [hk, l1, l2, e8, w64]
    repeat (refine And.intro (by omega) ?_)
    by_cases q : gt l k = gt l (k - 1)
    · have nd : ¬ Dif l l.length := fun h => h k (by omega) hk q
      refine CodeJ.condI true (by simp [q]) (fun _ => ?_) (fun q => by cases q)
      refine CodeJ.cutAt 2 (fun st => ∃ (k' : Nat) (m : List Int), m.length = l.length ∧ 1 ≤ k' ∧ k' < l.length ∧ st = ⟨61, [(0, .view 0 0 l.length), (3, iv k')], [some ⟨1, m.map iv, false⟩]⟩) ?_ ?_
      rotate_left 1
      · rintro st ⟨k', m, hm, a1, a2, rfl⟩
        simp only [dropC_succ, dropC_zero]
        refine CodeJ.seqI (CodeJ.regionI (OpsJ.step rfl ?_))
        simp
        refine OpsJ.step rfl ?_
        simp
        refine OpsJ.step rfl ?_
        simp (disch := omega) [hm]
        repeat (refine And.intro (by omega) ?_)
        refine OpsJ.clearEnd (es := m.map iv) 0 k' (l.length - k') (by simp) (Tryz.ty26) (Tryz.ty3) rfl (by simp [hm]; omega) (by omega) (by simp) ?_
        refine OpsJ.go ?_
        simp
        refine CodeJ.go ?_
        simp
        exact ⟨by omega, _, _, ⟨m.take k' ++ List.replicate (l.length - k') 0, k', rfl, rfl, ⟨fun e => by omega, fun h => absurd h nd⟩⟩, rfl, by simp [leM], by simp, .inl rfl⟩
      simp only [takeC_succ, takeC_zero]
      simp
      refine ⟨by omega, ?_⟩
      refine CodeJ.loop (ι := Nat × Nat × List Int) (fun ⟨k', k2, m⟩ => ⟨61, [(0, .view 0 0 l.length), (3, iv k'), (4, .view 0 k (l.length - k)), (5, iv k2)], [some ⟨1, m.map iv, false⟩]⟩)
        (fun ⟨k', k2, m⟩ => m.length = l.length ∧ 1 ≤ k2 ∧ k2 ≤ l.length - k ∧ 1 ≤ k' ∧ k' < k + k2) (fun ⟨k', k2, m⟩ => l.length - k2) (k, 1, l) ?_ ?_ ?_
      · exact ⟨rfl, by omega, by omega, by omega, by omega⟩
      · simp [leS, hC]
      rintro ⟨k', k2, m⟩ ⟨hm, a1, a2, a3, a4⟩
      by_cases hk2 : k2 < l.length - k
      · have hk2' : (k2 : Int) < ((l.length - k : Nat) : Int) := by omega
        have e9 : ((k2 : Int) - 1).toNat = k2 - 1 := by omega
        have l3 := lget_iv (l := m) (i := k + k2) (by omega)
        have l4 := lget_iv (l := m) (i := k + (k2 - 1)) (by omega)
        have l5 := lget_iv (l := m) (i := k') (by omega)
        simp (disch := omega) [hk2]
        repeat (refine And.intro (by omega) ?_)
        refine CodeJ.draw (.qs [0, 1, 2, 3, 4, 5, 6, 7, 8, 9] <| .nil) (by kernel_rfl) (by kernel_rfl) (by simp) ?_
        simp (disch := omega) [hk2, l3, l4, l5, e9, w64, hm, lset_iv, -List.map_set]
        repeat (refine And.intro (by omega) ?_)
        refine ⟨fun _ => ?_, fun _ => ?_⟩
        · repeat (refine And.intro (by omega) ?_)
          exact ⟨k' + 1, k2 + 1, m.set k' (gt m (k + k2)), ⟨by simp [hm], by omega, by omega, by omega, by omega⟩, by omega, by simp (disch := omega) [leS, hC, w64, -List.map_set]⟩
        · exact ⟨k', k2 + 1, m, ⟨hm, by omega, by omega, by omega, by omega⟩, by omega, by simp (disch := omega) [leS, hC, w64]⟩
      · simp [hk2]
        exact ⟨_, ⟨k', m, hm, by omega, by omega, rfl⟩, by simp [leS, hC]⟩
    · refine CodeJ.condI false (by simp [q]) (fun q => by cases q) (fun _ => ?_)
      refine CodeJ.go ?_
      simp
      refine CodeJ.go ?_
      simp
      exact ⟨k + 1, ⟨by omega, by omega, fun j h1 h2 => by
        by_cases e : j = k
        · subst e; exact q
        · exact hd j h1 (by omega)⟩, by omega, Le.syn (by simp (disch := omega) [leS, hC, w64])⟩
  · obtain rfl : k = l.length := by omega
    refine CodeJ.go ?_
    simp
    exact ⟨_, _, ⟨l, l.length, rfl, rfl, ⟨fun _ => hd, fun _ => rfl⟩⟩, rfl, by simp [leM], by simp, .inl rfl⟩
end Go.Proofs

