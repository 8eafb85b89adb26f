/- Covers: what the program makes of them, and the document. What the law CutsCover returns. Covers: what the document makes of them. What the law CutsCover returns. A text of the prover's own. -/
import Derived.Test.YtilpfpephcngbaaGreatDoorDJa
import Derived.Test.YtilpfpephcngbaaGreatDoorDKv
import Derived.Test.YtilpfpephcngbaaGreatDoorDKt
namespace Go.Li
open Go Go.Sv Go.Pl Go.Proofs Go.Tb Go.Ut
@[simp] theorem colQ_g2 (c : Col) : lget (colQ c).cells 2 = .val (.bool c.low.has) := rfl
@[simp] theorem colQ_g7 (c : Col) : lget (colQ c).cells 7 = .val (.bool c.high.has) := rfl
@[simp] theorem colQ_t3 (c : Col) : SV.agg (List.take 4 (List.drop 3 (colQ c).cells)) = rsv c.low.at' := rfl
@[simp] theorem colQ_t8 (c : Col) : SV.agg (List.take 4 (List.drop 8 (colQ c).cells)) = rsv c.high.at' := rfl
def entI (c : Int) : SV := .tup [.val (.int .i64 c), .val (.bool true)]
@[simp] theorem entI_lt (k : Nat) (e : Int) : (entI e).lt k = true := rfl
@[simp] theorem entI_pure (e : Int) : (entI e).pure = true := rfl
@[simp] theorem entI_uses (k : Nat) (e : Int) : (entI e).uses k = false := rfl
theorem keq_int (a b : Int) : keq (.int .i64 a) (.int .i64 b) = some (decide (a = b)) := by simp [keq]
theorem kfindI (c : Int) : ∀ (l : List Int) (i : Nat), (inS l c = false → kfind (.int .i64 c) (l.map entI) i = some none) ∧ (inS l c = true → ∃ j, kfind (.int .i64 c) (l.map entI) i = some (some (j, .val (.bool true))))
  | [], i => ⟨fun _ => rfl, fun h => by cases h⟩
  | t :: l, i => by
    obtain ⟨h1, h2⟩ := kfindI c l (i + 1)
    have e : inS (t :: l) c = (decide (t = c) || inS l c) := rfl
    have k : kfind (.int .i64 c) ((t :: l).map entI) i = kgo (.int .i64 c) (.int .i64 t) (.val (.bool true)) i (kfind (.int .i64 c) (l.map entI) (i + 1)) := rfl
    rw [e, k]
    unfold kgo
    rw [keq_int]
    by_cases h : c = t
    · subst h
      refine ⟨fun h => by simp at h, fun _ => ⟨i, by simp⟩⟩
    · have h' : ¬ t = c := fun q => h q.symm
      simp only [h, h', decide_false, Bool.false_or]
      exact ⟨h1, h2⟩
theorem kfI_none {l : List Int} {c : Int} (h : inS l c = false) : kfind (.int .i64 c) (l.map entI) 0 = some none := (kfindI c l 0).1 h
theorem lkR_I {l : List Int} {c : Int} {M : Tab} {a b : Nat} : lkR false M ⟨.bool, a, b, [.val (.bool false)]⟩ (kfind (.int .i64 c) (l.map entI) 0) = .m True M [] (some (.val (.bool (inS l c)))) := by
  cases h : inS l c with
  | false => rw [kfI_none h]; rfl
  | true => obtain ⟨j, hj⟩ := (kfindI c l 0).2 h; rw [hj]; rfl
def lastS (set : List Int) : Nat → Int
  | 0 => -1
  | k + 1 => gt set k
def firstE (p : Prob) (set : List Int) : List Term → Nat
  | [] => 0
  | t :: ts => if cvE p set t = 0 then firstE p set ts else cvE p set t
theorem firstE_at {p : Prob} {set : List Int} : ∀ {ts : List Term} {k : Nat}, k < ts.length → (∀ i, i < k → cvE p set (gt ts i) = 0) → cvE p set (gt ts k) ≠ 0 → firstE p set ts = cvE p set (gt ts k)
  | [], k, h, _, _ => by simp at h
  | t :: ts, 0, _, _, h => by unfold firstE; rw [if_neg (show ¬ cvE p set t = 0 from h)]; rfl
  | t :: ts, k + 1, hk, h0, h => by
    unfold firstE
    rw [if_pos (show cvE p set t = 0 from h0 0 (by omega))]
    exact firstE_at (ts := ts) (k := k) (by simpa using hk) (fun i hi => h0 (i + 1) (by omega)) h
theorem firstE_0 {p : Prob} {set : List Int} : ∀ {ts : List Term}, (∀ i, i < ts.length → cvE p set (gt ts i) = 0) → firstE p set ts = 0
  | [], _ => rfl
  | t :: ts, h => by
    unfold firstE
    rw [if_pos (show cvE p set t = 0 from h 0 (by simp))]
    exact firstE_0 fun i hi => h (i + 1) (by simpa using hi)
theorem cvE_cases (p : Prob) (set : List Int) (t : Term) : cvE p set t = 0 ∨ cvE p set t = 4 ∨ cvE p set t = 10 := by
  unfold cvE; split
  · split
    · exact .inl rfl
    · exact .inr (.inl rfl)
  · split
    · exact .inl rfl
    · exact .inr (.inr rfl)
/-- what is wrong: an error's number -/
def cvC (p : Prob) (i : Nat) (set : List Int) : Nat :=
  if (gt p.rows i).high.has = false ∨ set = [] then 4
  else if badS p.cols.length (-1) set = true then 4
  else if firstE p set (gt p.rows i).terms ≠ 0 then firstE p set (gt p.rows i).terms
  else if (cvO set (gt p.rows i).terms (gt p.rows i).terms.length).length < set.length then 4
  else if cvS p set (gt p.rows i).terms (gt p.rows i).terms.length ≤ (gt p.rows i).high.at' then 10 else 0
theorem firstE_le (p : Prob) (set : List Int) : ∀ ts, firstE p set ts = 0 ∨ firstE p set ts = 4 ∨ firstE p set ts = 10
  | [] => .inl rfl
  | t :: ts => by
    unfold firstE; split
    · exact firstE_le p set ts
    · exact cvE_cases p set t
theorem cvC_cases (p : Prob) (i : Nat) (set : List Int) : cvC p i set = 0 ∨ cvC p i set = 4 ∨ cvC p i set = 10 := by
  have := firstE_le p set (gt p.rows i).terms
  unfold cvC
  repeat' split
  all_goals omega
theorem qw_cvS {p : Prob} (hw : ProbW p) {set : List Int} {ts : List Term} (ht : ∀ k, k < ts.length → qw 2200 (gt ts k).num ∧ 0 ≤ (gt ts k).col ∧ (gt ts k).col < p.cols.length) : ∀ k, k ≤ ts.length → qw (1 + 4402 * k) (cvS p set ts k)
  | 0, _ => qw_mono (qw_small (n := 0) (by omega) (by omega)) (by omega)
  | k + 1, hk => by
    obtain ⟨h1, h2, h3⟩ := ht k (by omega)
    have ih := qw_cvS hw (set := set) ht k (by omega)
    have hs := qw_sgC hw (show (gt ts k).col.toNat < p.cols.length by omega) (gt ts k).num
    have : qw 4401 (cvV p set (gt ts k)) := by
      unfold cvV; split
      · exact qw_mono h1 (by omega)
      · exact qw_mono (qw_mul h1 hs (by omega)) (by omega)
    exact qw_mono (qw_add ih this) (by omega)
theorem rowQ_hi (ts : List Term) (q : Rat) : rowQ ⟨.empty, ts, ⟨false, 0⟩, ⟨true, q⟩⟩ = .agg (.val (.string .empty) :: .ro (ts.map termQ) :: .val (.bool false) :: .val (.bool false) :: .ro [] :: .val (.bool false) :: .ro [] :: .val (.bool true) :: (rsv q).cells) := by
  show SV.agg ([.val (.string .empty), .ro (ts.map termQ)] ++ (boQ ⟨false, 0⟩).cells ++ (boQ ⟨true, q⟩).cells) = _
  rw [boQ_no]; rfl
theorem take_inS {set : List Int} {k : Nat} (h : k < set.length) (c : Int) : inS (set.take (k + 1)) c = (inS (set.take k) c || decide (gt set k = c)) := by
  rw [take_gt h]; unfold inS; rw [List.any_append]; simp
end Go.Li
namespace Go.Proofs
open Go.Sv Go Go.Tb Go.Pl Go.Ut Go.Li
theorem qCoverE_ok (p : Prob) (h : Few p) (hv : validC p ≠ 0) (i : Int) (set : List Int) : PureF Tryz.prog 51 [.rop (probQ p) 0, iv i, .ro (set.map iv)] (.tup [rowZ0, erV (validC p)]) := by
  have g := qValid_ok p h
  refine pure_enter Tryz.func51 rfl (by simp) (fun C hC => ?_)
  simp
  refine callS (g) (by simp) ?_
  rcases valid_cases p with e | e | e | e
  · exact absurd e hv
  · rw [e, erV_2]; simp [rowZ0]
  · rw [e, erV_7]; simp [rowZ0]
  · rw [e, erV_4]; simp [rowZ0]
set_option maxRecDepth 10000 in
theorem qCoverS_ok (p : Prob) (h : Few p) (hv : validC p = 0) (i : Int) (hi : i < 0 ∨ (p.rows.length : Int) ≤ i) (set : List Int) : PureF Tryz.prog 51 [.rop (probQ p) 0, iv i, .ro (set.map iv)] (.tup [rowZ0, erV 4]) := by
  have g := qValid_ok p h
  rw [hv, erV_0] at g
  refine pure_enter Tryz.func51 rfl (by simp) (fun C hC => ?_)
  simp
  refine callS (g) (by simp) ?_
  by_cases h0 : i < 0
  · simp [h0]
    refine CodeJ.draw (.qs [0] <| .q 1 [0] <| .l 2 [0] <| .qs [3] <| .nil) (by kernel_rfl) (by kernel_rfl) (by simp) ?_
    simp [erV_4, rowZ0]
  · have h1 : (p.rows.length : Int) ≤ i := by omega
    have h2 : 0 ≤ i := by omega
    simp [h0, h1, h2]
    refine CodeJ.draw (.qs [0] <| .q 1 [0] <| .l 2 [0] <| .qs [3] <| .nil) (by kernel_rfl) (by kernel_rfl) (by simp) ?_
    simp [erV_4, rowZ0]
set_option maxRecDepth 20000 in
theorem qCover_ok (p : Prob) (h : Few p) (hw : ProbW p) (hv : validC p = 0) (i : Nat) (hi : i < p.rows.length) (set : List Int) (hs : set.length ≤ 1000) : PureF Tryz.prog 51 [.rop (probQ p) 0, iv i, .ro (set.map iv)] (if cvC p i set = 0 then .tup [rowQ (cvR set), .val .nilIface] else .tup [rowZ0, erV (cvC p i set)]) := by
  have g := qValid_ok p h
  rw [hv, erV_0] at g
  obtain ⟨v1, v2, v3⟩ := valid_yes hv
  have hi' : (i : Int) < p.rows.length := by omega
  have hn : ¬ (p.rows.length : Int) ≤ i := by omega
  have lr := lget_rowQ hi
  refine pure_enterW Tryz.func51 rfl (by simp) (fun C hC => ?_)
  simp
  refine callS (g) (by simp) ?_
  have hz : ¬ (i : Int) < 0 := by omega
  have q0 : qok 0 := qok_of (qw_small (n := 0) (by omega) (by omega)) (by omega)
  have q1 : qok 1 := qok_of (qw_small (n := 1) (by omega) (by omega)) (by omega)
  by_cases hh : (gt p.rows i).high.has = true
  · by_cases hne : set = []
    · subst hne
      simp [hi, hi', hn, lr, hh, hz]
      refine CodeJ.draw (.qs [0] <| .q 1 [0] <| .l 2 [0] <| .qs [3] <| .nil) (by kernel_rfl) (by kernel_rfl) (by simp) ?_
      have e4 : cvC p i [] = 4 := by unfold cvC; rw [if_pos (.inr rfl)]
      simp
      refine ⟨_, Le.refl _ _, ?_⟩
      simp [e4, erV_4, rowZ0]
    · simp [hi, hi', hn, lr, hh, hne, hz]
      refine CodeJ.loopL (ι := Nat) (fun k => ⟨206, [(0, .rop (probQ p) 0), (1, iv i), (2, .ro (set.map iv)), (6, .ptr 0 0 0), (9, .mp 1), (10, iv (lastS set k)), (56, .ro (set.map iv)), (57, iv set.length), (58, iv k)], [some ⟨12, [.agg [.val (.string .empty), .val (.slice none 0 0), .val (.bool false), .val (.bool false), .val (.slice none 0 0), .val (.bool false), .val (.slice none 0 0), .val (.bool false), .val (.bool false), .val (.slice none 0 0), .val (.bool false), .val (.slice none 0 0)]], false⟩, some ⟨0, (set.take k).map entI, false⟩]⟩)
        (fun k => k ≤ set.length ∧ badS p.cols.length (lastS set k) (set.drop k) = badS p.cols.length (-1) set ∧ ∀ j, j < k → gt set j ≤ lastS set k) (fun k => set.length - k) 0 (by simp [lastS]) ?_ ?_
      · simp [leS, hC, lastS]
        done
      · rintro k ⟨hk, hb, hd⟩
        by_cases hkl : k < set.length
        · rw [drop_gt hkl] at hb
          simp only [badS] at hb
          simp (disch := omega) [hkl, lget_iv, w64]
          repeat (refine And.intro (by omega) ?_)
          refine ⟨fun c1 => ⟨fun c2 => ?_, fun c2 => ?_⟩, fun c1 => ?_⟩
          · have e4 : cvC p i set = 4 := by unfold cvC; rw [if_neg (by simp [hh, hne]), if_pos (by rw [← hb]; simp [c2])]
            refine CodeJ.draw (.qs [0] <| .q 1 [0] <| .l 2 [0] <| .qs [3] <| .nil) (by kernel_rfl) (by kernel_rfl) (by simp) ?_
            simp
            refine ⟨_, Le.refl _ _, ?_⟩
            simp [e4, erV_4, rowZ0]
          · have nin : inS (set.take k) (gt set k) = false := by
              cases hq : inS (set.take k) (gt set k) with
              | false => rfl
              | true =>
                obtain ⟨j, hj, e⟩ := List.getElem_of_mem (inS_mem.1 hq)
                simp only [List.length_take] at hj
                rw [List.getElem_take, gt_get (by omega)] at e
                have := hd j (by omega)
                omega
            have kn : kfind (.int .i64 (gt set k)) (List.take k (List.map entI set)) 0 = some none := by rw [← List.map_take]; exact kfI_none nin
            have en : SV.tup [SV.val (.int .i64 (gt set k)), SV.val (.bool true)] = entI (gt set k) := rfl
            simp [kn]
            refine ⟨k + 1, ⟨by omega, ?_, ?_⟩, by omega, Le.syn (by simp (disch := omega) [leS, hC, w64, lastS, en, take1 entI hkl])⟩
            · show badS _ (gt set k) _ = _
              rw [← hb]
              simp [show ¬ gt set k ≤ lastS set k by omega, show ¬ (p.cols.length : Int) ≤ gt set k by omega]
            · intro j hj
              show gt set j ≤ gt set k
              rcases Nat.lt_or_ge j k with h' | h'
              · have := hd j h'; omega
              · obtain rfl : j = k := by omega
                exact Int.le_refl _
          · have e4 : cvC p i set = 4 := by unfold cvC; rw [if_neg (by simp [hh, hne]), if_pos (by rw [← hb]; simp [c1])]
            refine CodeJ.draw (.qs [0] <| .q 1 [0] <| .l 2 [0] <| .qs [3] <| .nil) (by kernel_rfl) (by kernel_rfl) (by simp) ?_
            simp
            refine ⟨_, Le.refl _ _, ?_⟩
            simp [e4, erV_4, rowZ0]
        · obtain rfl : k = set.length := by omega
          have hbad : badS p.cols.length (-1) set = false := by rw [← hb, List.drop_length]; rfl
          obtain ⟨N, hN⟩ : ∃ N : Rat, N = (((set.length : Int) - 1 : Int) : Rat) := ⟨_, rfl⟩
          have ho : PureF Tryz.prog 96 [.val (.int .i64 ((set.length : Int) - 1))] (rsv N) := by rw [hN]; exact qInt_ok _ (by omega) (by omega)
          have n1 : nlL (set.map entI) = set.map entI := by rw [nlL_map]; rfl
          have n2 : nlL (rsv N).cells = (rsv N).cells := rfl
          have n3 : SV.agg [SV.val (.string .empty), SV.ro [], SV.val (.bool false), SV.val (.bool false), SV.ro [], SV.val (.bool false), SV.ro [], SV.val (.bool false), SV.val (.bool false), SV.ro [], SV.val (.bool false), SV.ro []] = rowZ0 := rfl
          simp (disch := omega) [w64]
          repeat (refine And.intro (by omega) ?_)
          refine callS (ho) (by simp) ?_
          simp [hi, lr]
          refine CodeJ.le (Le.nilCell 2 1 5 rfl rfl rfl rfl (by simp)) ?_
          simp [tset]
          refine CodeJ.le (Le.nl _) ?_
          have n4 : nlV (SV.mp 1) = SV.mp 1 := rfl
          simp [nlS, n1, n2, n3, n4, rsv0]
          have hb := v3 i hi
          have nt := h.nt i hi
          refine CodeJ.loopL (ι := Nat) (fun k => ⟨206, [(0, .rop (probQ p) 0), (1, iv i), (2, .ro (set.map iv)), (6, .ptr 0 0 0), (9, .mp 1), (13, .ptr 2 0 0), (14, .ptr 3 0 0), (93, .ro ((gt p.rows i).terms.map termQ)), (94, iv (gt p.rows i).terms.length), (95, iv k)],
              [some ⟨12, [rowZ0], false⟩, some ⟨0, set.map entI, false⟩, some ⟨12, [.agg (SV.val (.string .empty) :: .view 4 0 (cvO set (gt p.rows i).terms k).length :: SV.val (.bool false) :: SV.val (.bool false) :: .ro [] :: SV.val (.bool false) :: .ro [] :: SV.val (.bool true) :: (rsv N).cells)], false⟩,
                some ⟨4, [rsv (cvS p set (gt p.rows i).terms k)], false⟩, some ⟨5, (cvO set (gt p.rows i).terms k).map termQ, false⟩]⟩)
            (fun k => k ≤ (gt p.rows i).terms.length ∧ ∀ j, j < k → cvE p set (gt (gt p.rows i).terms j) = 0) (fun k => (gt p.rows i).terms.length - k) 0 (by simp) ?_ ?_
          · simp [leS, hC, cvO, cvS]
            done
          · rintro k ⟨hk, he⟩
            have ol := cvO_len set (gt p.rows i).terms k
            have tok : ∀ k, k < (gt p.rows i).terms.length → qw 2200 (gt (gt p.rows i).terms k).num ∧ 0 ≤ (gt (gt p.rows i).terms k).col ∧ (gt (gt p.rows i).terms k).col < p.cols.length := fun k hk => by
              obtain ⟨b1, b2, -, -⟩ := badT_ok hb k hk
              exact ⟨hw.te i hi k hk, by omega, b2⟩
            by_cases hkl : k < (gt p.rows i).terms.length
            · obtain ⟨w1, b1, b2⟩ := tok k hkl
              have ws := qw_cvS hw (set := set) tok k (by omega)
              have lc : lget (p.cols.map colQ) (gt (gt p.rows i).terms k).col.toNat = colQ (gt p.cols (gt (gt p.rows i).terms k).col.toNat) := lget_colQ (by omega)
              have wc := hw.co (gt (gt p.rows i).terms k).col.toNat (by omega)
              have eE := fun (q : cvE p set (gt (gt p.rows i).terms k) ≠ 0) => show cvC p i set = cvE p set (gt (gt p.rows i).terms k) by
                have f := firstE_at hkl he q
                unfold cvC; rw [if_neg (by simp [hh, hne]), if_neg (by simp [hbad]), if_pos (by rw [f]; exact q), f]
              simp (disch := omega) [hkl, lget_terms, w64]
              repeat (refine And.intro (by omega) ?_)
              refine CodeJ.drawZ (.d 8 <| .qs [0, 1, 2, 3, 4, 5, 6, 7] <| .b (.l 9 [6] <| .nil)) (by kernel_rfl) (by kernel_rfl) (by simp) ?_
              simp (disch := omega) [hkl, lget_terms, lc, lkR_I]
              repeat (refine And.intro (by omega) ?_)
              refine ⟨fun hin => ?_, fun hin => ?_⟩
              · refine CodeJ.draw (.qs [0, 1, 2, 3, 4, 5, 6, 7, 8, 9, 10, 11, 12] <| .l 13 [] <| .qs [14, 15, 16, 17, 18, 19, 20, 21, 22, 23, 24, 25] <| .l 26 [] <| .l 27 [] <| .qs [28, 29, 30, 31, 32] <| .l 33 [] <| .qs [34, 35] <| .nil) (by kernel_rfl) (by kernel_rfl) (by simp) ?_
                have cT := fun (q : ¬ (binC (gt p.cols (gt (gt p.rows i).terms k).col.toNat) = true ∧ ¬ (gt (gt p.rows i).terms k).num < 0)) => show cvE p set (gt (gt p.rows i).terms k) = 4 by
                  unfold cvE; rw [if_pos hin, if_neg q]
                have bc : binC (gt p.cols (gt (gt p.rows i).terms k).col.toNat) = true → ¬ (gt (gt p.rows i).terms k).num < 0 → cvE p set (gt (gt p.rows i).terms k) = 0 := fun q1 q2 => by unfold cvE; rw [if_pos hin, if_pos ⟨q1, q2⟩]
                have eV : cvV p set (gt (gt p.rows i).terms k) = (gt (gt p.rows i).terms k).num := by unfold cvV; rw [if_pos hin]
                have eO : cvO set (gt p.rows i).terms (k + 1) = cvO set (gt p.rows i).terms k ++ [one1 (gt (gt p.rows i).terms k)] := by
                  show (if _ then _ else _) = _
                  rw [if_pos hin]
                generalize gt p.cols (gt (gt p.rows i).terms k).col.toNat = c at *
                simp
                refine ⟨fun cw => ?_, fun cw => ?_⟩
                · refine ⟨fun cl => ?_, fun cl => ?_⟩
                  · refine callS (sgnQ c.low.at') (by simp) ?_
                    simp
                    refine ⟨fun z0 => ⟨fun ch => ?_, fun ch => ?_⟩, fun z0 => ?_⟩
                    · refine callS (qOne_ok) (by simp) ?_
                      simp
                      refine callS (cmpQ c.high.at' 1 (qok_of wc.2.2 (by omega)) q1) (by simp) ?_
                      simp
                      refine ⟨fun o1 => ?_, fun o1 => ?_⟩
                      · refine callS (sgnQ (gt (gt p.rows i).terms k).num) (by simp) ?_
                        simp
                        refine ⟨fun ng => ?_, fun ng => ?_⟩
                        · have e4 : cvC p i set = 4 := by rw [eE (by rw [cT (by simp [ng])]; omega), cT (by simp [ng])]
                          refine CodeJ.draw (.qs [0] <| .q 1 [0] <| .l 2 [0] <| .qs [3] <| .nil) (by kernel_rfl) (by kernel_rfl) (by simp) ?_
                          simp
                          refine ⟨_, Le.refl _ _, ?_⟩
                          simp [e4, erV_4, rowZ0]
                        · have hbc : binC c = true := by simp [binC, cw, cl, ch, z0, o1]
                          refine callS (qAdd_ok _ _ (qok_of ws (by omega)) (qok_of w1 (by omega))) (by simp) ?_
                          simp
                          refine CodeJ.draw (.qs [0, 1, 2, 3] <| .l 4 [] <| .qs [5] <| .l 6 [] <| .l 7 [1000000] <| .qs [8] <| .l 9 [2, 1000000] <| .nil) (by kernel_rfl) (by kernel_rfl) (by simp) ?_
                          simp
                          refine callS (qOne_ok) (by simp) ?_
                          simp (disch := omega) [w64]
                          repeat (refine And.intro (by omega) ?_)
                          have em : SV.agg (SV.val (.int .i64 (gt (gt p.rows i).terms k).col) :: (rsv 1).cells) = termQ (one1 (gt (gt p.rows i).terms k)) := rfl
                          exact ⟨⟨by simp [hC], by omega⟩, k + 1, ⟨by omega, stp he (bc hbc ng)⟩, by omega, Le.syn (by simp (disch := omega) [leS, hC, w64, eO, cvS, eV, em])⟩
                      · have e4 : cvC p i set = 4 := by rw [eE (by rw [cT (by simp [binC, o1])]; omega), cT (by simp [binC, o1])]
                        refine CodeJ.draw (.qs [0] <| .q 1 [0] <| .l 2 [0] <| .qs [3] <| .nil) (by kernel_rfl) (by kernel_rfl) (by simp) ?_
                        simp
                        refine ⟨_, Le.refl _ _, ?_⟩
                        simp [e4, erV_4, rowZ0]
                    · have e4 : cvC p i set = 4 := by rw [eE (by rw [cT (by simp [binC, ch])]; omega), cT (by simp [binC, ch])]
                      refine CodeJ.draw (.qs [0] <| .q 1 [0] <| .l 2 [0] <| .qs [3] <| .nil) (by kernel_rfl) (by kernel_rfl) (by simp) ?_
                      simp
                      refine ⟨_, Le.refl _ _, ?_⟩
                      simp [e4, erV_4, rowZ0]
                    · have e4 : cvC p i set = 4 := by rw [eE (by rw [cT (by simp [binC, z0])]; omega), cT (by simp [binC, z0])]
                      refine CodeJ.draw (.qs [0] <| .q 1 [0] <| .l 2 [0] <| .qs [3] <| .nil) (by kernel_rfl) (by kernel_rfl) (by simp) ?_
                      simp
                      refine ⟨_, Le.refl _ _, ?_⟩
                      simp [e4, erV_4, rowZ0]
                  · have e4 : cvC p i set = 4 := by rw [eE (by rw [cT (by simp [binC, cl])]; omega), cT (by simp [binC, cl])]
                    refine CodeJ.draw (.qs [0] <| .q 1 [0] <| .l 2 [0] <| .qs [3] <| .nil) (by kernel_rfl) (by kernel_rfl) (by simp) ?_
                    simp
                    refine ⟨_, Le.refl _ _, ?_⟩
                    simp [e4, erV_4, rowZ0]
                · have e4 : cvC p i set = 4 := by rw [eE (by rw [cT (by simp [binC, cw])]; omega), cT (by simp [binC, cw])]
                  refine CodeJ.draw (.qs [0] <| .q 1 [0] <| .l 2 [0] <| .qs [3] <| .nil) (by kernel_rfl) (by kernel_rfl) (by simp) ?_
                  simp
                  refine ⟨_, Le.refl _ _, ?_⟩
                  simp [e4, erV_4, rowZ0]
              · have eV : cvV p set (gt (gt p.rows i).terms k) = (gt (gt p.rows i).terms k).num * (sgT p (gt (gt p.rows i).terms k)).at' := by unfold cvV; rw [if_neg (by simp [hin])]
                have eC : (sgT p (gt (gt p.rows i).terms k)).has = true → cvE p set (gt (gt p.rows i).terms k) = 0 := fun q => by unfold cvE; rw [if_neg (by simp [hin]), if_pos q]
                have eC' : (sgT p (gt (gt p.rows i).terms k)).has = false → cvE p set (gt (gt p.rows i).terms k) = 10 := fun q => by unfold cvE; rw [if_neg (by simp [hin]), if_neg (by simp [q])]
                have eO : cvO set (gt p.rows i).terms (k + 1) = cvO set (gt p.rows i).terms k := by
                  show (if _ then _ else _) = _
                  rw [if_neg (by simp [hin])]
                have wg := qw_sgC hw (show (gt (gt p.rows i).terms k).col.toNat < p.cols.length by omega) (gt (gt p.rows i).terms k).num
                refine callS (sgnQ (gt (gt p.rows i).terms k).num) (by simp) ?_
                simp
                refine ⟨fun hn => ?_, fun hn => ?_⟩
                all_goals
                  first
                    | rw [show (gt p.cols (gt (gt p.rows i).terms k).col.toNat).high = sgT p (gt (gt p.rows i).terms k) by unfold sgT sgC; rw [if_pos hn]]
                    | rw [show (gt p.cols (gt (gt p.rows i).terms k).col.toNat).low = sgT p (gt (gt p.rows i).terms k) by unfold sgT sgC; rw [if_neg hn]]
                  refine ⟨fun h1 => ?_, fun h1 => ?_⟩
                  · have e4 : cvC p i set = 10 := by rw [eE (by rw [eC' h1]; omega), eC' h1]
                    refine CodeJ.draw (.qs [0] <| .q 1 [0] <| .l 2 [0] <| .qs [3] <| .nil) (by kernel_rfl) (by kernel_rfl) (by simp) ?_
                    simp
                    refine ⟨_, Le.refl _ _, ?_⟩
                    simp [e4, erV_10, rowZ0]
                  · refine CodeJ.draw (.qs [0, 1, 2, 3, 4] <| .l 5 [] <| .l 6 [] <| .l 7 [3] <| .nil) (by kernel_rfl) (by kernel_rfl) (by simp) ?_
                    simp
                    refine callS (qMul_ok _ _ (qok_of w1 (by omega)) (qok_of wg (by omega))) (by simp) ?_
                    simp
                    refine callS (qAdd_ok _ _ (qok_of ws (by omega)) (qok_of (qw_mul w1 wg (by omega)) (by omega))) (by simp) ?_
                    simp (disch := omega) [w64]
                    repeat (refine And.intro (by omega) ?_)
                    exact ⟨k + 1, ⟨by omega, stp he (eC h1)⟩, by omega, Le.syn (by simp (disch := omega) [leS, hC, w64, eO, cvS, eV])⟩
            · obtain rfl : k = (gt p.rows i).terms.length := by omega
              have wS := qw_cvS hw (set := set) tok (gt p.rows i).terms.length (Nat.le_refl _)
              have f0 := firstE_0 he
              have met := cvO_met hb hbad
              simp [hi, lr]
              refine ⟨fun hm => ?_, fun hm => ?_⟩
              · have e4 : cvC p i set = 4 := by unfold cvC; rw [if_neg (by simp [hh, hne]), if_neg (by simp [hbad]), if_neg (by simp [f0]), if_pos (by omega)]
                refine CodeJ.draw (.qs [0] <| .q 1 [0] <| .l 2 [0] <| .qs [3] <| .nil) (by kernel_rfl) (by kernel_rfl) (by simp) ?_
                simp
                refine ⟨_, Le.refl _ _, ?_⟩
                simp [e4, erV_4, rowZ0]
              · have all := cvO_all hb hbad (by omega)
                have wr := (hw.ro i hi).2
                refine CodeJ.draw (.qs [0, 1, 2, 3, 4, 5, 6, 7, 8, 9] <| .l 10 [] <| .qs [11] <| .nil) (by kernel_rfl) (by kernel_rfl) (by simp) ?_
                simp [hi, lr]
                refine callS (cmpQ _ _ (qok_of wS (by omega)) (qok_of wr (by omega))) (by simp) ?_
                simp
                refine ⟨fun hc => ?_, fun hc => ?_⟩
                · have e4 : cvC p i set = 10 := by unfold cvC; rw [if_neg (by simp [hh, hne]), if_neg (by simp [hbad]), if_neg (by simp [f0]), if_neg (by omega), if_pos hc]
                  refine CodeJ.draw (.qs [0] <| .q 1 [0] <| .l 2 [0] <| .qs [3] <| .nil) (by kernel_rfl) (by kernel_rfl) (by simp) ?_
                  simp
                  refine ⟨_, Le.refl _ _, ?_⟩
                  simp [e4, erV_10, rowZ0]
                · have e0 : cvC p i set = 0 := by unfold cvC; rw [if_neg (by simp [hh, hne]), if_neg (by simp [hbad]), if_neg (by simp [f0]), if_neg (by omega), if_neg hc]
                  refine ⟨_, Le.frz 4 rfl (by simp), ?_⟩
                  rw [if_pos e0]
                  have er : rowQ (cvR set) = .agg (.val (.string .empty) :: .ro ((cvO set (gt p.rows i).terms (gt p.rows i).terms.length).map termQ) :: .val (.bool false) :: .val (.bool false) :: .ro [] :: .val (.bool false) :: .ro [] :: .val (.bool true) :: (rsv N).cells) := by rw [all, hN]; exact rowQ_hi _ _
                  rw [er]
                  simp [frzS, tset]
  · simp [hi, hi', hn, lr, hh, hz]
    refine CodeJ.draw (.qs [0] <| .q 1 [0] <| .l 2 [0] <| .qs [3] <| .nil) (by kernel_rfl) (by kernel_rfl) (by simp) ?_
    have e4 : cvC p i set = 4 := by unfold cvC; rw [if_pos (.inl (by simpa using hh))]
    simp
    refine ⟨_, Le.refl _ _, ?_⟩
    simp [e4, erV_4, rowZ0]
end Go.Proofs
namespace Go.Li
open Go Go.Sv Go.Pl Go.Proofs Go.Tb Go.Ut
theorem firstE_all {p : Prob} {set : List Int} : ∀ {ts : List Term}, firstE p set ts = 0 → ∀ k, k < ts.length → cvE p set (gt ts k) = 0
  | [], _, k, hk => by simp at hk
  | t :: ts, h, k, hk => by
    unfold firstE at h
    by_cases e : cvE p set t = 0
    · rw [if_pos e] at h
      match k, hk with
      | 0, _ => exact e
      | k + 1, hk => exact firstE_all (ts := ts) h k (by simpa using hk)
    · rw [if_neg e] at h; exact absurd h e
@[simp] theorem colP_g2 (c : Col) : lget (colP c).cells 2 = .val (.bool c.low.has) := rfl
@[simp] theorem colP_g7 (c : Col) : lget (colP c).cells 7 = .val (.bool c.high.has) := rfl
@[simp] theorem colP_t3 (c : Col) : SV.agg (List.take 4 (List.drop 3 (colP c).cells)) = qb c.low := rfl
@[simp] theorem colP_t8 (c : Col) : SV.agg (List.take 4 (List.drop 8 (colP c).cells)) = qb c.high := rfl
@[simp] theorem rowP_g8 (r : Row) : lget (rowP r).cells 8 = .val (.bool r.high.has) := rfl
@[simp] theorem rowP_t9 (r : Row) : SV.agg (List.take 4 (List.drop 9 (rowP r).cells)) = qb r.high := rfl
end Go.Li
namespace Go.Proofs
open Go.Sv Go Go.Tb Go.Pl Go.Ut Go.Li
theorem rBin_ok (c : Col) (h1 : qok c.low.at') (h2 : qok c.high.at') : PureF Tryz.prog 121 [colP c] (bov (binC c)) := by
  have q0 : qok 0 := qok_of (qw_small (n := 0) (by omega) (by omega)) (by omega)
  have q1 : qok 1 := qok_of (qw_small (n := 1) (by omega) (by omega)) (by omega)
  refine pure_enter Tryz.func121 rfl (by simp) (fun C hC => ?_)
  simp
  refine ⟨fun cw => ⟨fun cl => ⟨fun ch => by simp [binC, ch], fun ch => ?_⟩, fun cl => by simp [binC, cl]⟩, fun cw => by simp [binC, cw]⟩
  refine CodeJ.draw (.qs [0, 1, 2] <| .l 3 [] <| .l 4 [] <| .qs [5] <| .nil) (by kernel_rfl) (by kernel_rfl) (by simp) ?_
  simp
  refine callS (zeroP) (by simp) ?_
  simp
  rw [qb_has cl]
  refine callS (cmpP _ _ h1 q0) (by simp) ?_
  simp
  refine CodeJ.draw (.qs [0, 1, 2] <| .l 3 [] <| .l 4 [] <| .qs [5] <| .nil) (by kernel_rfl) (by kernel_rfl) (by simp) ?_
  simp
  refine callS (pOne_ok) (by simp) ?_
  simp
  rw [qb_has ch]
  refine callS (cmpP _ _ h2 q1) (by simp) ?_
  simp
  exact ⟨fun z => by simp [binC, cw, cl, ch, z], fun z => by simp [binC, z]⟩
set_option maxRecDepth 10000 in
theorem rCoverS_ok (p : Prob) (h : Few p) (i : Int) (hi : i < 0 ∨ (p.rows.length : Int) ≤ i) (set : List Int) : PureF Tryz.prog 52 [probP p, iv i, .ro (set.map iv)] (.tup [rowY0, iv 4]) := by
  have nr := h.nr
  refine pure_enter Tryz.func52 rfl (by simp) (fun C hC => ?_)
  by_cases h0 : i < 0
  · simp [h0, rowY0]
  · have h1 : (p.rows.length : Int) ≤ i := by omega
    have h2 : 0 ≤ i := by omega
    simp [h0, h1, h2, rowY0]
set_option maxRecDepth 20000 in
theorem rCover_ok (p : Prob) (h : Few p) (hw : ProbW p) (hv : validC p = 0) (i : Nat) (hi : i < p.rows.length) (set : List Int) (hs : set.length ≤ 1000) : PureF Tryz.prog 52 [probP p, iv i, .ro (set.map iv)] (if cvC p i set = 0 then .tup [rowP (cvR set), iv 0] else .tup [rowY0, iv (cvC p i set)]) := by
  obtain ⟨v1, v2, v3⟩ := valid_yes hv
  have hi' : (i : Int) < p.rows.length := by omega
  have hn : ¬ (p.rows.length : Int) ≤ i := by omega
  have hz : ¬ (i : Int) < 0 := by omega
  have lr := lget_rowP hi
  have q0 : qok 0 := qok_of (qw_small (n := 0) (by omega) (by omega)) (by omega)
  have q1 : qok 1 := qok_of (qw_small (n := 1) (by omega) (by omega)) (by omega)
  have hb := v3 i hi
  have nt := h.nt i hi
  refine pure_enterW Tryz.func52 rfl (by simp) (fun C hC => ?_)
  by_cases hh : (gt p.rows i).high.has = true
  · by_cases hne : set = []
    · subst hne
      have e4 : cvC p i [] = 4 := by unfold cvC; rw [if_pos (.inr rfl)]
      simp [hi, hi', hn, lr, hh, hz]
      refine ⟨_, Le.refl _ _, ?_⟩
      simp [e4, rowY0]
    · simp [hi, hi', hn, lr, hh, hne, hz]
      refine CodeJ.loopL (ι := Nat) (fun k => ⟨204, [(1, iv i), (2, .ro (set.map iv)), (3, .ptr 0 0 0), (6, .ptr 1 0 0), (8, iv (lastS set k)), (9, iv k)], [some ⟨7, [probP p], false⟩, some ⟨13, [.agg [.val (.string .empty), .val (.slice none 0 0), .val (.slice none 0 0), .val (.bool false), .val (.bool false), .val (.slice none 0 0), .val (.bool false), .val (.slice none 0 0), .val (.bool false), .val (.bool false), .val (.slice none 0 0), .val (.bool false), .val (.slice none 0 0)]], false⟩]⟩)
        (fun k => k ≤ set.length ∧ badS p.cols.length (lastS set k) (set.drop k) = badS p.cols.length (-1) set) (fun k => set.length - k) 0 (by simp [lastS]) ?_ ?_
      · simp [leS, hC, lastS]
        done
      · rintro k ⟨hk, hb'⟩
        by_cases hkl : k < set.length
        · rw [drop_gt hkl] at hb'
          simp only [badS] at hb'
          simp (disch := omega) [hkl, lget_iv]
          repeat (refine And.intro (by omega) ?_)
          refine CodeJ.draw (.qs [0, 1, 2, 3, 4, 5, 6, 7, 8, 9, 10, 11, 12, 13, 14, 15] <| .nil) (by kernel_rfl) (by kernel_rfl) (by simp) ?_
          simp (disch := omega) [hkl, lget_iv, w64]
          repeat (refine And.intro (by omega) ?_)
          refine ⟨fun c1 => ⟨fun c2 => ?_, fun c2 => ?_⟩, fun c1 => ?_⟩
          · have e4 : cvC p i set = 4 := by unfold cvC; rw [if_neg (by simp [hh, hne]), if_pos (by rw [← hb']; simp [c2])]
            refine ⟨_, Le.refl _ _, ?_⟩
            simp [e4, rowY0]
          · refine ⟨k + 1, ⟨by omega, ?_⟩, by omega, Le.syn (by simp (disch := omega) [leS, hC, w64, lastS])⟩
            show badS _ (gt set k) _ = _
            rw [← hb']
            simp [show ¬ gt set k ≤ lastS set k by omega, show ¬ (p.cols.length : Int) ≤ gt set k by omega]
          · have e4 : cvC p i set = 4 := by unfold cvC; rw [if_neg (by simp [hh, hne]), if_pos (by rw [← hb']; simp [c1])]
            refine ⟨_, Le.refl _ _, ?_⟩
            simp [e4, rowY0]
        · obtain rfl : k = set.length := by omega
          have hbad : badS p.cols.length (-1) set = false := by rw [← hb', List.drop_length]; rfl
          simp (disch := omega) [hi, lr, w64]
          repeat (refine And.intro (by omega) ?_)
          refine callS (zeroP) (by simp) ?_
          simp
          refine CodeJ.loopL (ι := Nat) (fun k => ⟨204, [(1, iv i), (2, .ro (set.map iv)), (3, .ptr 0 0 0), (6, .ptr 1 0 0), (10, .ptr 2 0 0), (11, .ptr 3 0 0), (12, iv (cvO set (gt p.rows i).terms k).length), (13, iv k)], [some ⟨7, [probP p], false⟩, some ⟨13, [.agg [.val (.string .empty), .val (.slice none 0 0), .val (.slice none 0 0), .val (.bool false), .val (.bool false), .val (.slice none 0 0), .val (.bool false), .val (.slice none 0 0), .val (.bool false), .val (.bool false), .val (.slice none 0 0), .val (.bool false), .val (.slice none 0 0)]], false⟩, some ⟨13, [rowP (gt p.rows i)], false⟩, some ⟨4, [qsv (cvS p set (gt p.rows i).terms k)], false⟩]⟩)
            (fun k => k ≤ (gt p.rows i).terms.length ∧ ∀ j, j < k → cvE p set (gt (gt p.rows i).terms j) = 0) (fun k => (gt p.rows i).terms.length - k) 0 (by simp) ?_ ?_
          · simp [leS, hC, cvO, cvS]
            done
          · rintro k ⟨hk, he⟩
            have ol := cvO_len set (gt p.rows i).terms k
            have tok : ∀ k, k < (gt p.rows i).terms.length → qw 2200 (gt (gt p.rows i).terms k).num ∧ 0 ≤ (gt (gt p.rows i).terms k).col ∧ (gt (gt p.rows i).terms k).col < p.cols.length := fun k hk => by
              obtain ⟨b1, b2, -, -⟩ := badT_ok hb k hk
              exact ⟨hw.te i hi k hk, by omega, b2⟩
            by_cases hkl : k < (gt p.rows i).terms.length
            · obtain ⟨w1, b1, b2⟩ := tok k hkl
              have ws := qw_cvS hw (set := set) tok k (by omega)
              have lc : lget (p.cols.map colP) (gt (gt p.rows i).terms k).col.toNat = colP (gt p.cols (gt (gt p.rows i).terms k).col.toNat) := lget_colP (by omega)
              have wc := hw.co (gt (gt p.rows i).terms k).col.toNat (by omega)
              have eE := fun (q : cvE p set (gt (gt p.rows i).terms k) ≠ 0) => show cvC p i set = cvE p set (gt (gt p.rows i).terms k) by
                have f := firstE_at hkl he q
                unfold cvC; rw [if_neg (by simp [hh, hne]), if_neg (by simp [hbad]), if_pos (by rw [f]; exact q), f]
              have lk := lget_cols hkl
              have ln := lget_nums hkl
              simp (disch := omega) [hkl]
              repeat (refine And.intro (by omega) ?_)
              refine CodeJ.loopL (ι := Nat) (fun j => ⟨204, [(1, iv i), (2, .ro (set.map iv)), (3, .ptr 0 0 0), (6, .ptr 1 0 0), (10, .ptr 2 0 0), (11, .ptr 3 0 0), (12, iv (cvO set (gt p.rows i).terms k).length), (13, iv k), (14, bov (inS (set.take j) (gt (gt p.rows i).terms k).col)), (15, iv j)], [some ⟨7, [probP p], false⟩, some ⟨13, [.agg [.val (.string .empty), .val (.slice none 0 0), .val (.slice none 0 0), .val (.bool false), .val (.bool false), .val (.slice none 0 0), .val (.bool false), .val (.slice none 0 0), .val (.bool false), .val (.bool false), .val (.slice none 0 0), .val (.bool false), .val (.slice none 0 0)]], false⟩, some ⟨13, [rowP (gt p.rows i)], false⟩, some ⟨4, [qsv (cvS p set (gt p.rows i).terms k)], false⟩]⟩)
                (fun j => j ≤ set.length) (fun j => set.length - j) 0 (by simp) ?_ ?_
              · simp [leS, hC, inS]
                done
              · rintro j hj
                by_cases hjl : j < set.length
                · simp (disch := omega) [hjl]
                  repeat (refine And.intro (by omega) ?_)
                  refine CodeJ.draw (.qs [0, 1, 2, 3, 4, 5, 6, 7, 8, 9, 10, 11, 12, 13] <| .nil) (by kernel_rfl) (by kernel_rfl) (by simp) ?_
                  simp (disch := omega) [hjl, hkl, lget_iv, lk, w64]
                  repeat (refine And.intro (by omega) ?_)
                  exact ⟨fun q => ⟨j + 1, by omega, by omega, Le.syn (by simp (disch := omega) [leS, hC, w64, take_inS hjl, q])⟩, fun q => ⟨j + 1, by omega, by omega, Le.syn (by simp (disch := omega) [leS, hC, w64, take_inS hjl, q])⟩⟩
                · obtain rfl : j = set.length := by omega
                  simp (disch := omega) [hkl, lk]
                  repeat (refine And.intro (by omega) ?_)
                  refine CodeJ.drawZ (.d 9 <| .qs [0, 1, 2, 3, 4, 5, 6, 7, 8] <| .b (.l 10 [4] <| .nil)) (by kernel_rfl) (by kernel_rfl) (by simp) ?_
                  simp (disch := omega) [hkl, lk, lc, ln]
                  repeat (refine And.intro (by omega) ?_)
                  refine callS (sgnP (gt (gt p.rows i).terms k).num) (by simp) ?_
                  simp
                  refine ⟨fun hin => ?_, fun hin => ?_⟩
                  · have cT := fun (q : ¬ (binC (gt p.cols (gt (gt p.rows i).terms k).col.toNat) = true ∧ ¬ (gt (gt p.rows i).terms k).num < 0)) => show cvE p set (gt (gt p.rows i).terms k) = 4 by
                      unfold cvE; rw [if_pos hin, if_neg q]
                    have bc : binC (gt p.cols (gt (gt p.rows i).terms k).col.toNat) = true → ¬ (gt (gt p.rows i).terms k).num < 0 → cvE p set (gt (gt p.rows i).terms k) = 0 := fun q1 q2 => by unfold cvE; rw [if_pos hin, if_pos ⟨q1, q2⟩]
                    have eV : cvV p set (gt (gt p.rows i).terms k) = (gt (gt p.rows i).terms k).num := by unfold cvV; rw [if_pos hin]
                    have eO : cvO set (gt p.rows i).terms (k + 1) = cvO set (gt p.rows i).terms k ++ [one1 (gt (gt p.rows i).terms k)] := by
                      show (if _ then _ else _) = _
                      rw [if_pos hin]
                    generalize gt p.cols (gt (gt p.rows i).terms k).col.toNat = c at *
                    refine callS (rBin_ok c (qok_of wc.2.1 (by omega)) (qok_of wc.2.2 (by omega))) (by simp) ?_
                    simp (disch := omega) [w64]
                    repeat (refine And.intro (by omega) ?_)
                    refine ⟨fun bn => ⟨fun ng => ?_, fun ng => ?_⟩, fun bn => ?_⟩
                    · have e4 : cvC p i set = 4 := by rw [eE (by rw [cT (by simp [ng])]; omega), cT (by simp [ng])]
                      refine ⟨_, Le.refl _ _, ?_⟩
                      simp [e4, rowY0]
                    · refine CodeJ.draw (.qs [0, 1, 2, 3, 4, 5] <| .l 6 [] <| .l 7 [3] <| .nil) (by kernel_rfl) (by kernel_rfl) (by simp) ?_
                      simp (disch := omega) [hkl, ln]
                      repeat (refine And.intro (by omega) ?_)
                      refine callS (pAdd_ok _ _ (qok_of ws (by omega)) (qok_of w1 (by omega))) (by simp) ?_
                      simp (disch := omega) [w64]
                      repeat (refine And.intro (by omega) ?_)
                      exact ⟨k + 1, ⟨by omega, stp he (bc bn ng)⟩, by omega, Le.syn (by simp (disch := omega) [leS, hC, w64, eO, cvS, eV])⟩
                    · have e4 : cvC p i set = 4 := by rw [eE (by rw [cT (by simp [bn])]; omega), cT (by simp [bn])]
                      refine ⟨_, Le.refl _ _, ?_⟩
                      simp [e4, rowY0]
                  · have eV : cvV p set (gt (gt p.rows i).terms k) = (gt (gt p.rows i).terms k).num * (sgT p (gt (gt p.rows i).terms k)).at' := by unfold cvV; rw [if_neg (by simp [hin])]
                    have eC : (sgT p (gt (gt p.rows i).terms k)).has = true → cvE p set (gt (gt p.rows i).terms k) = 0 := fun q => by unfold cvE; rw [if_neg (by simp [hin]), if_pos q]
                    have eC' : (sgT p (gt (gt p.rows i).terms k)).has = false → cvE p set (gt (gt p.rows i).terms k) = 10 := fun q => by unfold cvE; rw [if_neg (by simp [hin]), if_neg (by simp [q])]
                    have eO : cvO set (gt p.rows i).terms (k + 1) = cvO set (gt p.rows i).terms k := by
                      show (if _ then _ else _) = _
                      rw [if_neg (by simp [hin])]
                    have wg : qw 2200 (sgT p (gt (gt p.rows i).terms k)).at' := qw_sgC hw (show (gt (gt p.rows i).terms k).col.toNat < p.cols.length by omega) (gt (gt p.rows i).terms k).num
                    refine ⟨fun hn => ?_, fun hn => ?_⟩
                    all_goals
                      first
                        | rw [show (gt p.cols (gt (gt p.rows i).terms k).col.toNat).high = sgT p (gt (gt p.rows i).terms k) by unfold sgT sgC; rw [if_pos hn]]
                        | rw [show (gt p.cols (gt (gt p.rows i).terms k).col.toNat).low = sgT p (gt (gt p.rows i).terms k) by unfold sgT sgC; rw [if_neg hn]]
                      refine ⟨fun h1 => ?_, fun h1 => ?_⟩
                      · have e4 : cvC p i set = 10 := by rw [eE (by rw [eC' h1]; omega), eC' h1]
                        refine ⟨_, Le.refl _ _, ?_⟩
                        simp [e4, rowY0]
                      · refine CodeJ.drawZ (.d 8 <| .qs [0, 1, 2, 3, 4, 5, 6] <| .p 7 <| .b (.l 9 [6] <| .nil)) (by kernel_rfl) (by kernel_rfl) (by simp) ?_
                        simp (disch := omega) [hkl, ln]
                        repeat (refine And.intro (by omega) ?_)
                        rw [qb_has h1]
                        refine callV (pMul_ok _ _ (qok_of w1 (by omega)) (qok_of wg (by omega))) (by simp) ?_
                        simp
                        refine callS (pAdd_ok _ _ (qok_of ws (by omega)) (qok_of (qw_mul w1 wg (by omega)) (by omega))) (by simp) ?_
                        simp (disch := omega) [w64]
                        repeat (refine And.intro (by omega) ?_)
                        exact ⟨k + 1, ⟨by omega, stp he (eC h1)⟩, by omega, Le.syn (by simp (disch := omega) [leS, hC, w64, eO, cvS, eV])⟩
            · obtain rfl : k = (gt p.rows i).terms.length := by omega
              have wS := qw_cvS hw (set := set) tok (gt p.rows i).terms.length (Nat.le_refl _)
              have f0 := firstE_0 he
              have met := cvO_met hb hbad
              have wr := (hw.ro i hi).2
              simp
              refine ⟨fun hm => ?_, fun hm => ?_⟩
              · have e4 : cvC p i set = 4 := by unfold cvC; rw [if_neg (by simp [hh, hne]), if_neg (by simp [hbad]), if_neg (by simp [f0]), if_pos (by omega)]
                refine ⟨_, Le.refl _ _, ?_⟩
                simp [e4, rowY0]
              · rw [qb_has hh]
                refine callS (cmpP _ _ (qok_of wS (by omega)) (qok_of wr (by omega))) (by simp) ?_
                simp
                refine ⟨fun hc => ?_, fun hc => ?_⟩
                · have e4 : cvC p i set = 10 := by unfold cvC; rw [if_neg (by simp [hh, hne]), if_neg (by simp [hbad]), if_neg (by simp [f0]), if_neg (by omega), if_pos hc]
                  refine ⟨_, Le.refl _ _, ?_⟩
                  simp [e4, rowY0]
                · have e0 : cvC p i set = 0 := by unfold cvC; rw [if_neg (by simp [hh, hne]), if_neg (by simp [hbad]), if_neg (by simp [f0]), if_neg (by omega), if_neg hc]
                  obtain ⟨N, hN⟩ : ∃ N : Rat, N = (((set.length : Int) - 1 : Int) : Rat) := ⟨_, rfl⟩
                  have ho : PureF Tryz.prog 94 [.val (.int .i64 ((set.length : Int) - 1))] (qsv N) := by rw [hN]; exact pInt_ok _ (by omega) (by omega)
                  refine CodeJ.le (Le.nilCell 4 1 1 rfl rfl rfl rfl (by simp)) ?_
                  simp [tset]
                  refine CodeJ.le (Le.nilCell 4 2 4 rfl rfl rfl rfl (by simp)) ?_
                  refine CodeJ.loopL (ι := Nat) (fun t => ⟨204, [(2, .ro (set.map iv)), (6, .ptr 1 0 0), (22, .ptr 4 0 0), (23, iv t)], [some ⟨7, [probP p], false⟩, some ⟨13, [.agg [.val (.string .empty), .val (.slice none 0 0), .val (.slice none 0 0), .val (.bool false), .val (.bool false), .val (.slice none 0 0), .val (.bool false), .val (.slice none 0 0), .val (.bool false), .val (.bool false), .val (.slice none 0 0), .val (.bool false), .val (.slice none 0 0)]], false⟩, some ⟨13, [rowP (gt p.rows i)], false⟩, some ⟨4, [qsv (cvS p set (gt p.rows i).terms (gt p.rows i).terms.length)], false⟩,
                      some ⟨13, [.agg [.val (.string .empty), .view 5 0 t, .view 6 0 t, .val (.bool false), .val (.bool false), .val (.slice none 0 0), .val (.bool false), .val (.slice none 0 0), .val (.bool false), .val (.bool false), .val (.slice none 0 0), .val (.bool false), .val (.slice none 0 0)]], false⟩, some ⟨1, (set.take t).map iv, false⟩, some ⟨4, List.replicate t (qsv 1), false⟩]⟩)
                    (fun t => t ≤ set.length) (fun t => set.length - t) 0 (by simp) ?_ ?_
                  · simp [leS, hC, tset]
                    done
                  · rintro t ht
                    by_cases htl : t < set.length
                    · have u := usesL_rep (k := 5) (n := t) (x := qsv 1) rfl
                      have u6 := usesL_rep (k := 6) (n := t) (x := qsv 1) rfl
                      have v := ltL_rep (k := 7) (n := t) (x := qsv 1) rfl
                      simp (disch := omega) [htl]
                      repeat (refine And.intro (by omega) ?_)
                      refine CodeJ.draw (.qs [0, 1, 2, 3, 4, 5] <| .l 6 [] <| .l 7 [1000000] <| .qs [8] <| .l 9 [4, 1000000] <| .nil) (by kernel_rfl) (by kernel_rfl) (by simp) ?_
                      simp (disch := omega) [htl, lget_iv, u]
                      repeat (refine And.intro (by omega) ?_)
                      refine ⟨⟨by simp [hC], by omega⟩, ?_⟩
                      refine CodeJ.draw (.qs [0, 1] <| .l 2 [] <| .l 3 [] <| .l 4 [1000000] <| .qs [5] <| .l 6 [4, 1000000] <| .nil) (by kernel_rfl) (by kernel_rfl) (by simp) ?_
                      simp
                      refine callS (pOne_ok) (by simp) ?_
                      simp (disch := omega) [w64, u6]
                      repeat (refine And.intro (by omega) ?_)
                      exact ⟨⟨by simp [hC], by omega⟩, t + 1, by omega, by omega, Le.syn (by simp (disch := omega) [leS, hC, w64, take1 iv htl, List.replicate_succ', u, u6, v])⟩
                    · obtain rfl : t = set.length := by omega
                      simp (disch := omega) [w64]
                      repeat (refine And.intro (by omega) ?_)
                      refine callS (ho) (by simp) ?_
                      simp
                      refine ⟨_, (Le.frz 6 rfl (by simp; exact pureL_rep rfl)).trans (Le.frz 5 rfl (by simp)), ?_⟩
                      rw [if_pos e0]
                      have er : rowP (cvR set) = .agg (.val (.string .empty) :: .ro (set.map iv) :: .ro (List.replicate set.length (qsv 1)) :: .val (.bool false) :: .val (.bool false) :: .ro [] :: .val (.bool false) :: .ro [] :: .val (.bool true) :: (qsv N).cells) := by
                        rw [hN]
                        refine (rowP_hi _ _).trans ?_
                        rw [List.map_map, List.map_map]
                        have e1 : set.map ((fun t : Term => qsv t.num) ∘ fun c => ⟨c, 1⟩) = List.replicate set.length (qsv 1) := by
                          rw [← List.map_const']; rfl
                        rw [e1]; rfl
                      rw [er]
                      simp [frzS, tset]
                      exact SubL_self _ _ rfl
  · have e4 : cvC p i set = 4 := by unfold cvC; rw [if_pos (.inl (by simpa using hh))]
    simp [hi, hi', hn, lr, hh, hz]
    refine ⟨_, Le.refl _ _, ?_⟩
    simp [e4, rowY0]
theorem rowW_cover {set : List Int} (hs : set.length ≤ 20) : RowW (cvR set) where
  n := by show (set.map _).length ≤ 120; rw [List.length_map]; omega
  t := fun k hk => by
    have hk' : k < set.length := by simpa [cvR] using hk
    show qw 10000000 (gt (set.map fun c => (⟨c, 1⟩ : Term)) k).num
    rw [gt_map _ hk']
    exact qw_mono (qw_small (n := 1) (by omega) (by omega)) (by omega)
  lo := qw_mono (qw_small (n := 0) (by omega) (by omega)) (by omega)
  hi := qw_mono (qw_small (n := (set.length : Int) - 1) (by omega) (by omega)) (by omega)
set_option maxRecDepth 20000 in
theorem cutsCover_ok (s : SpecT) (i : Int) (set : List Int) (x : List ByteArray) (h : SmS s) (hset : set.length ≤ 1048576) (hx : SmN x) :
    PureE Tryz.prog 7 [specT s, iv i, .ro (set.map iv), .ro (x.map strv)] (fun z => z = .val (.bool true)) := by
  have g2 := rNumbers_ok x hx
  rw [numX_eq] at g2
  have g4 := shorts2_ok x hx.n (fun i hi => hx.s _ (gt_mem hi))
  refine pureE_enter Tryz.func7 rfl (by simp) (fun C hC hX hE => ?_)
  refine CodeJ.go ?_
  simp
  refine callS (cut_ok) (by simp) ?_
  simp
  by_cases hf : fewB s = true
  · have gB := both_ok s h hf
    by_cases ho : okS s = true
    · rw [ho, probX_of ho] at gB
      have fw := few_of h
      have pw := probW_of s
      obtain ⟨l1, l2⟩ := fewB_len hf
      generalize probOf s = p at *
      have gv := rValid_ok p fw
      refine callS (gB) (by simp) ?_
      simp
      refine callS (g2) (by simp) ?_
      simp
      refine callS (g4) (by simp) ?_
      simp
      refine fun c2 c4 c5 => ?_
      have eX : numX x = (nums x).map qsv := by unfold numX; rw [if_pos c2]
      have xw := wd_nums x
      have xl := nums_len x
      rw [eX]
      by_cases hv : validC p = 0
      · rw [hv] at gv
        by_cases hi : i < 0 ∨ (p.rows.length : Int) ≤ i
        · have gq := qCoverS_ok p fw hv i hi set
          have gp := rCoverS_ok p fw i hi set
          refine callS (gq) (by simp) ?_
          simp
          refine callS (gv) (by simp) ?_
          simp
          refine callS (gp) (by simp) ?_
          simp
          refine callE (rowedE_ok (c := 4) (by omega) (by omega)) hE hX (by simp) (fun z hz => ?_)
          subst hz
          simp
        · obtain ⟨n, rfl⟩ : ∃ n : Nat, i = (n : Int) := ⟨i.toNat, by omega⟩
          have hn : n < p.rows.length := by omega
          have gq := qCover_ok p fw pw hv n hn set (by omega)
          have gp := rCover_ok p fw pw hv n hn set (by omega)
          by_cases e0 : cvC p n set = 0
          · rw [if_pos e0] at gq gp
            have rw' := rowW_cover (set := set) (by omega)
            refine callS (gq) (by simp) ?_
            simp
            refine callS (gv) (by simp) ?_
            simp
            refine callS (gp) (by simp) ?_
            simp
            refine callS (rowed0_ok _ rw') (by simp) ?_
            simp
            by_cases xl' : (nums x).length = p.cols.length
            · refine callS (rHolds_ok p fw pw hv (nums x) xw xl' true) (by simp) ?_
              simp
              refine fun hh => ?_
              have hb := (valid_yes hv).2.2 n hn
              unfold cvC at e0
              split at e0
              · cases e0
              · rename_i q1
                split at e0
                · cases e0
                · rename_i q2
                  split at e0
                  · rename_i q3; exact absurd e0 q3
                  · rename_i q3
                    split at e0
                    · cases e0
                    · rename_i q4
                      split at e0
                      · cases e0
                      · rename_i q5
                        have q2' : badS p.cols.length (-1) set = false := by simpa using q2
                        have q1' : (gt p.rows n).high.has = true := by
                          cases q : (gt p.rows n).high.has with
                          | true => rfl
                          | false => exact absurd (.inl q) q1
                        have he : ∀ k, k < (gt p.rows n).terms.length → cvE p set (gt (gt p.rows n).terms k) = 0 := firstE_all (by simpa using q3)
                        have hk := Go.Li.cover hv hh hn q2' q1' he (by omega) (Rat.not_le.1 q5)
                        have asc := (badS_asc q2').2
                        have ht : ∀ k, k < (cvR set).terms.length → 0 ≤ (gt (cvR set).terms k).col ∧ (gt (cvR set).terms k).col < (nums x).length := fun k hk => by
                          have hk' : k < set.length := by simpa [cvR] using hk
                          have e : (gt (cvR set).terms k).col = gt set k := by
                            show (gt (set.map fun c => (⟨c, 1⟩ : Term)) k).col = _
                            rw [gt_map _ hk']
                          have := asc _ (gt_mem hk')
                          rw [e, xl']
                          exact ⟨by omega, this.2⟩
                        refine callS (keeps_ok (cvR set) rw' (fun _ => rfl) (fun h => Bool.noConfusion h) (nums x) xw (by omega) ht (inB_iff.2 ⟨fun h => Bool.noConfusion h, fun _ => hk⟩)) (by simp) ?_
                        simp
            · refine callS (rHoldsNo_ok p (nums x) xl' true) (by simp) ?_
              simp
          · rw [if_neg e0] at gq gp
            have hc : 0 < cvC p n set ∧ cvC p n set ≤ 10 := by
              rcases cvC_cases p n set with e | e | e <;> omega
            refine callS (gq) (by simp) ?_
            simp
            refine callS (gv) (by simp) ?_
            simp
            refine callS (gp) (by simp) ?_
            simp [hc.1]
            refine callE (rowedE_ok hc.1 hc.2) hE hX (by simp) (fun z hz => ?_)
            subst hz
            simp
            exact fun h => absurd h e0
      · have gq := qCoverE_ok p fw hv i set
        have hv' := valid_le p hv
        refine callS (gq) (by simp) ?_
        simp
        refine callS (gv) (by simp) ?_
        simp [hv'.1]
        refine callNil ?_
        have z1 : nlV rowZ0 = rowZ0 := rfl
        have z2 : nlV (erV (validC p)) = erV (validC p) := by unfold erV; split <;> rfl
        have z3 : SV.agg [SV.val (.string .empty), SV.ro [], SV.ro [], SV.val (.bool false), SV.val (.bool false), SV.ro [], SV.val (.bool false), SV.ro [], SV.val (.bool false), SV.val (.bool false), SV.ro [], SV.val (.bool false), SV.ro []] = rowY0 := rfl
        simp [z1, z2, z3]
        refine callE (rowedE_ok hv'.1 hv'.2) hE hX (by simp) (fun z hz => ?_)
        subst hz
        simp
    · have ho' : okS s = false := by simpa using ho
      rw [ho'] at gB
      refine callS (gB) (by simp) ?_
      simp
      refine callS (g2) (by simp) ?_
      simp
      refine callS (g4) (by simp) ?_
      simp
  · have gB := bothNo_ok s h (by simpa using hf)
    refine callS (gB) (by simp) ?_
    simp
    refine callS (g2) (by simp) ?_
    simp
    refine callS (g4) (by simp) ?_
    simp
end Go.Proofs
namespace Go.Li
open Go Go.Sv Go.Pl Go.Proofs Go.Tb Go.Ut
def colsD : Pt := .sl (.int .i64)
theorem colsD_sv (x : colsD.T) : colsD.sv x = .ro (List.map iv (show List Int from x)) := rfl
theorem intD_sv (x : (Pt.int .i64).T) : (Pt.int .i64).sv x = iv x := rfl
theorem colsD_len {x : colsD.T} (h : colsD.bk x ≤ 1048576) : (show List Int from x).length ≤ 1048576 := sl_len (e := .int .i64) (x := x) (fun _ => Nat.le_refl 1) h
end Go.Li

