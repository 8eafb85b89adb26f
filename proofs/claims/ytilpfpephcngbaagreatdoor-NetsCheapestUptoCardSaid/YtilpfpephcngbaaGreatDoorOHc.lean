/- How near nodes come by what arcs cost: (*rest).relax. How near nodes are from one node; a plan out of a flow. A text of the prover's own. -/
import Derived.Test.YtilpfpephcngbaaGreatDoorOFc
import Derived.Test.YtilpfpephcngbaaGreatDoorOHa
import Derived.Test.YtilpfpephcngbaaGreatDoorOBb
import Derived.Test.YtilpfpephcngbaaGreatDoorOBd
import Derived.Test.YtilpfpephcngbaaGreatDoorOQt
import Derived.Test.YtilpfpephcngbaaGreatDoorOBe
namespace Go.Fl
open Go Go.Sv Go.Pl Go.Proofs Go.Tb Go.Ut Go.Ne
def relT (n : Nat) (l : List Arc) (x : List Rat) (bh : List Hop) (far : List Rat) (seen : List Bool) : Tab := [restE n l 1, flowE x, some ⟨2, bh.map hopV, false⟩, some ⟨4, far.map rsv, false⟩, some ⟨1, seen.map bov, false⟩]
/-- what is known in the midst of a round -/
structure Rnd (n : Nat) (l : List Arc) (x : List Rat) (π : Nat → Rat) (c : Rat) (seen0 : List Bool) (M0 i q : Nat) (again : Bool) (bh : List Hop) (far : List Rat) (seen : List Bool) : Prop where
  r : Rx n l x (Dc l) π c seen0 bh far seen
  m : nearM n l (Dc l) far seen ≤ M0
  a : again = true → nearM n l (Dc l) far seen < M0
  n : again = false → Nearer l x far seen i q
theorem Rnd.more {n : Nat} {l : List Arc} {x : List Rat} {π : Nat → Rat} {c : Rat} {seen0 : List Bool} {M0 i q : Nat} {again : Bool} {bh : List Hop} {far : List Rat} {seen : List Bool} {b : Bool} (r : Rnd n l x π c seen0 M0 i q again bh far seen) (hb : (if b = true then 1 else 0) = q)
    (hn : gt seen (hfr l (i, b)) = true → 0 < room l x (i, b) → gt seen (hto l (i, b)) = true ∧ gt far (hto l (i, b)) ≤ gt far (hfr l (i, b)) + cst l (i, b)) : Rnd n l x π c seen0 M0 i (q + 1) again bh far seen :=
  ⟨r.r, r.m, r.a, fun e => (r.n e).more hb hn⟩
theorem Rnd.both {n : Nat} {l : List Arc} {x : List Rat} {π : Nat → Rat} {c : Rat} {seen0 : List Bool} {M0 i : Nat} {again : Bool} {bh : List Hop} {far : List Rat} {seen : List Bool} (r : Rnd n l x π c seen0 M0 i 2 again bh far seen) : Rnd n l x π c seen0 M0 (i + 1) 0 again bh far seen :=
  ⟨r.r, r.m, r.a, fun e => (r.n e).both⟩
theorem Rnd.upd {n : Nat} {l : List Arc} {x : List Rat} {π : Nat → Rat} {c : Rat} {seen0 : List Bool} {M0 i q : Nat} {again : Bool} {bh : List Hop} {far : List Rat} {seen : List Bool} (r : Rnd n l x π c seen0 M0 i q again bh far seen) (hn : Net n l) (hp : PotOK l x π) {h : Hop} (hh : h.1 < l.length) (h0 : 0 < room l x h) (hs : gt seen (hfr l h) = true)
    (hu : gt seen (hto l h) = false ∨ gt far (hfr l h) + cst l h < gt far (hto l h)) (j k : Nat) : Rnd n l x π c seen0 M0 j k true (bh.set (hto l h) h) (far.set (hto l h) (gt far (hfr l h) + cst l h)) (seen.set (hto l h) true) := by
  have hlt := near_lt (Dc_pos l) r.r hn hp (fun g hg => Dc_cst hg) (Dc_costS _ (Nat.le_refl _)) hh h0 hs hu
  have := r.m
  exact ⟨r.r.upd hn hp (fun g hg => Dc_cst hg) hh h0 hs hu, by omega, fun _ => by omega, fun e => by cases e⟩
end Go.Fl
namespace Go.Proofs
open Go.Sv Go Go.Tb Go.Pl Go.Ut Go.Ne Go.Fl
set_option maxRecDepth 10000 in
theorem qRelax_ok (n : Nat) (l : List Arc) (x : List Rat) (hn : Net n l) (hw : ArcW l) (hx : x.length = l.length) (h1 : ∀ i, i < l.length → qok (gt l i).cap) (h2 : ∀ i, i < l.length → qok (gt x i)) (π : Nat → Rat) (c : Rat) (seen0 : List Bool) (hp : PotOK l x π)
    (bh0 : List Hop) (far0 : List Rat) (sn0 : List Bool) (r0 : Rx n l x (Dc l) π c seen0 bh0 far0 sn0) :
    EffC Tryz.prog 233 [.ptr 0 0 0, .view 2 0 n, .view 3 0 n, .view 4 0 n] (relT n l x bh0 far0 sn0) [] (fun T y => ∃ bh far seen, T = relT n l x bh far seen ∧ y = .tup [] ∧ Rx n l x (Dc l) π c seen0 bh far seen ∧ Near l x far seen) := by
  have n2 := hn.n2
  have m := hn.m
  refine eff_enterC Tryz.func233 rfl (by simp) (fun C hC => ?_)
  replace hC : C.fx = [0, 1, 2, 3, 4] := hC
  simp only [relT, restE, flowE]
  refine CodeJ.go ?_
  simp
  refine CodeJ.loopC (ι := Bool × List Hop × List Rat × List Bool) (fun ⟨again, bh, far, seen⟩ => ⟨93, [(0, .ptr 0 0 0), (1, .view 2 0 n), (2, .view 3 0 n), (3, .view 4 0 n), (8, bov again)], relT n l x bh far seen⟩)
    (fun ⟨again, bh, far, seen⟩ => Rx n l x (Dc l) π c seen0 bh far seen ∧ (again = false → Near l x far seen)) (fun ⟨again, bh, far, seen⟩ => nearM n l (Dc l) far seen + if again = true then 1 else 0) (true, bh0, far0, sn0) ⟨r0, fun e => by cases e⟩ ?_ ?_
  · simp [leS, hC, relT, restE, flowE]
  · rintro ⟨again, bh, far, seen⟩ ⟨hr, hnr⟩
    simp only [relT, restE, flowE]
    cases again with
    | false =>
      refine CodeJ.go ?_
      simp
      exact ⟨_, _, ⟨bh, far, seen, rfl, rfl, hr, hnr rfl⟩, rfl, by simp [leM, relT, restE, flowE], by simp [relT], by simp [relT, restE, flowE, ltM, ltL_map]⟩
    | true =>
      generalize hM : nearM n l (Dc l) far seen = M0
      refine CodeJ.go ?_
      simp
      refine CodeJ.loopL (ι := Nat × Bool × List Hop × List Rat × List Bool) (fun ⟨i, again, bh, far, seen⟩ => ⟨93, [(0, .ptr 0 0 0), (1, .view 2 0 n), (2, .view 3 0 n), (3, .view 4 0 n), (8, bov again), (21, .ro (l.map arcQ)), (22, iv l.length), (23, iv i)], relT n l x bh far seen⟩)
        (fun ⟨i, again, bh, far, seen⟩ => i ≤ l.length ∧ Rnd n l x π c seen0 M0 i 0 again bh far seen) (fun ⟨i, again, bh, far, seen⟩ => l.length - i) (0, false, bh, far, seen) ⟨by omega, ⟨hr, by omega, fun e => by (cases e), fun _ => Nearer.zero⟩⟩ ?_ ?_
      · simp [leS, hC, relT, restE, flowE]
      · clear hr hnr hM
        rintro ⟨i, again, bh, far, seen⟩ ⟨hi, hb⟩
        simp only [relT, restE, flowE]
        by_cases hil : i < l.length
        · have la := lget_arcQ hil
          simp (disch := omega) [hil, la, -Bool.exists_bool]
          repeat (refine And.intro (by omega) ?_)
          refine CodeJ.loopC (ι := Nat × Bool × List Hop × List Rat × List Bool) (fun ⟨q, again, bh, far, seen⟩ => ⟨93, [(0, .ptr 0 0 0), (1, .view 2 0 n), (2, .view 3 0 n), (3, .view 4 0 n), (8, bov again), (9, iv i), (10, .ptr 5 0 0), (21, .ro (l.map arcQ)), (22, iv l.length), (23, iv i), (28, .view 6 0 2), (29, iv 2), (30, iv q)], relT n l x bh far seen ++ [some ⟨10, [arcQ (gt l i)], false⟩, some ⟨1, [bov false, bov true], false⟩]⟩)
            (fun ⟨q, again, bh, far, seen⟩ => q ≤ 2 ∧ Rnd n l x π c seen0 M0 i q again bh far seen) (fun ⟨q, again, bh, far, seen⟩ => 2 - q) (0, again, bh, far, seen) ⟨by omega, hb⟩ ?_ ?_
          · simp [leS, hC, relT, restE, flowE]
          · clear hb
            rintro ⟨q, again, bh, far, seen⟩ ⟨hq, hb⟩
            simp only [relT, restE, flowE]
            by_cases hq2 : q = 2
            · subst hq2
              refine CodeJ.go ?_
              simp (disch := omega) [w64, -Bool.exists_bool]
              repeat (refine And.intro (by omega) ?_)
              exact ⟨i + 1, again, bh, far, seen, ⟨by omega, hb.both⟩, by omega, Le.syn (by simp (disch := omega) [leS, hC, w64])⟩
            · have hq3 : (q : Int) < 2 := by omega
              refine CodeJ.seqI (CodeJ.go ?_)
              simp (disch := omega) [hq3, -Bool.exists_bool]
              repeat (refine And.intro (by omega) ?_)
              refine CodeJ.seqI (CodeJ.go ?_)
              simp (disch := omega) [hq3, -Bool.exists_bool]
              repeat (refine And.intro (by omega) ?_)
              refine CodeJ.seqI (CodeJ.blockI ?_)
              refine CodeJ.seqI (CodeJ.go ?_)
              obtain ⟨b, hbq⟩ : ∃ b : Bool, (if b = true then 1 else 0) = q := by
                rcases (show q = 0 ∨ q = 1 by omega) with e | e
                · exact ⟨false, by simp [e]⟩
                · exact ⟨true, by simp [e]⟩
              have lq : lget [SV.val (.bool false), SV.val (.bool true)] q = .val (.bool b) := by
                cases b <;> (simp at hbq; subst hbq; rfl)
              simp (disch := omega) [lq, -Bool.exists_bool]
              repeat (refine And.intro (by omega) ?_)
              obtain ⟨f, t, ef, et, hf, ht⟩ := hn.a i hil
              refine CodeJ.seqI ?_
              refine CodeJ.drawZ (.d 6 <| .qs [0, 1, 2, 3, 4, 5] <| .b (.qs [7, 8] <| .l 9 [7] <| .nil)) (by kernel_rfl) (by kernel_rfl) (by simp) ?_
              simp (disch := omega) [ef, et, -Bool.exists_bool]
              repeat (refine And.intro (by omega) ?_)
              have e1 : hfr l (i, b) = if b = true then t else f := by unfold hfr; cases b <;> simp [ef, et]
              have e2 : hto l (i, b) = if b = true then f else t := by unfold hto; cases b <;> simp [ef, et]
              have e3 : cst l (i, b) = if b = true then -(gt l i).cost else (gt l i).cost := rfl
              have wc := hw.cost i hil
              refine CodeJ.seqI (CodeJ.cut (fun e st' => e = .normal ∧ leS C st' ⟨93, [(0, .ptr 0 0 0), (1, .view 2 0 n), (2, .view 3 0 n), (3, .view 4 0 n), (8, bov again), (9, iv i), (10, .ptr 5 0 0), (12, bov b), (13, iv (hfr l (i, b))), (14, iv (hto l (i, b))), (15, .ptr 7 0 0), (21, .ro (l.map arcQ)), (22, iv l.length), (23, iv i), (28, .view 6 0 2), (29, iv 2), (30, iv q)], relT n l x bh far seen ++ [some ⟨10, [arcQ (gt l i)], false⟩, some ⟨1, [bov false, bov true], false⟩, some ⟨4, [rsv (cst l (i, b))], false⟩]⟩) ?_ ?_)
              · cases b with
                | false => refine CodeJ.go ?_; simp [leS, hC, e1, e2, e3, relT, restE, flowE]
                | true =>
                  refine CodeJ.go ?_
                  simp
                  refine callS (qNeg_ok (gt l i).cost) (by simp) ?_
                  simp [leS, hC, e1, e2, e3, relT, restE, flowE]
              · rintro e st' ⟨rfl, hst⟩
                refine ⟨_, hst, ?_⟩
                clear hst st'
                simp only [thn, relT, restE, flowE]
                have hfn : hfr l (i, b) < n := hfr_lt hn (h := (i, b)) hil
                have htn : hto l (i, b) < n := hto_lt hn (h := (i, b)) hil
                have bl := hb.r.bl
                have fl := hb.r.fl
                have sl := hb.r.sl
                have lt := lget_bv (l := seen) (i := hto l (i, b)) (by omega)
                have lf := lget_bv (l := seen) (i := hfr l (i, b)) (by omega)
                have df := lget_r (l := far) (i := hfr l (i, b)) (by omega)
                have dt := lget_r (l := far) (i := hto l (i, b)) (by omega)
                have lb := lget_hop (l := bh) (i := hto l (i, b)) (by omega)
                have gR := qRoom_ok n l x hx i b hil (h1 i hil) (h2 i hil)
                simp only [restT, restE, flowE] at gR
                have wcs : qw 2200 (cst l (i, b)) := by rw [e3]; split; exact qw_neg wc; exact wc
                clear e1 e2 e3 lq
                generalize hhf : hfr l (i, b) = hf' at *
                generalize hht : hto l (i, b) = ht' at *
                cases c1 : gt seen hf' with
                | false =>
                  rw [c1] at lf
                  refine CodeJ.go ?_
                  simp (disch := omega) [lf, sl, -Bool.exists_bool]
                  repeat (refine And.intro (by omega) ?_)
                  refine CodeJ.go ?_
                  simp (disch := omega) [w64, -Bool.exists_bool]
                  repeat (refine And.intro (by omega) ?_)
                  exact ⟨q + 1, again, bh, far, seen, ⟨by omega, hb.more hbq fun g => by rw [hhf, c1] at g; cases g⟩, by omega, Le.syn (by simp (disch := omega) [leS, hC, w64, relT, restE, flowE])⟩
                | true =>
                  rw [c1] at lf
                  by_cases c3 : 0 < room l x (i, b)
                  · have c3' : ¬ room l x (i, b) ≤ 0 := Rat.not_le.2 c3
                    refine CodeJ.seqI (CodeJ.go ?_)
                    simp (disch := omega) [lf, sl, -Bool.exists_bool]
                    repeat (refine And.intro (by omega) ?_)
                    refine callT gR [0, 1] (by simp) (by simp) (by simp) (by simp) (by simp) ?_
                    rintro T y ⟨rfl, rfl⟩
                    simp (disch := omega) [lf, sl, -Bool.exists_bool]
                    repeat (refine And.intro (by omega) ?_)
                    refine callS (sgnQ (room l x (i, b))) (by simp) ?_
                    simp (disch := omega) [c3, c3', -Bool.exists_bool]
                    repeat (refine And.intro (by omega) ?_)
                    have wf := hb.r.qw hn hw hfn c1
                    have wd := qw_add wf wcs
                    refine CodeJ.seqI ?_
                    refine CodeJ.drawZ (.d 6 <| .qs [0, 1, 2, 3, 4] <| .p 5 <| .b (.l 7 [8] <| .nil)) (by kernel_rfl) (by kernel_rfl) (by simp) ?_
                    simp (disch := omega) [df, fl, -Bool.exists_bool]
                    repeat (refine And.intro (by omega) ?_)
                    refine callV (qAdd_ok _ _ (qok_of wf (by omega)) (qok_of wcs (by omega))) (by simp) ?_
                    simp [-Bool.exists_bool]
                    refine CodeJ.seqI ?_
                    cases c2 : gt seen ht' with
                    | false =>
                      rw [c2] at lt
                      refine CodeJ.draw (.qs [0, 1, 2, 3, 4, 5, 6, 7, 8, 9, 10] <| .l 11 [] <| .qs [12, 13] <| .nil) (by kernel_rfl) (by kernel_rfl) (by simp) ?_
                      simp (disch := omega) [lt, sl, -Bool.exists_bool]
                      repeat (refine And.intro (by omega) ?_)
                      refine CodeJ.condI true (by simp) (fun _ => ?_) (fun q => by cases q)
                      have U := hb.upd hn hp (h := (i, b)) hil c3 (by rw [hhf]; exact c1) (by rw [hht]; exact .inl c2) i (q + 1)
                      rw [hhf, hht] at U
                      have eb : lset (bh.map hopV) ht' (SV.agg [SV.val (.int .i64 i), SV.val (.bool b)]) = (bh.set ht' (i, b)).map hopV := by rw [lset_eq, List.map_set]; rfl
                      have ef : lset (far.map rsv) ht' (rsv (gt far hf' + cst l (i, b))) = (far.set ht' (gt far hf' + cst l (i, b))).map rsv := by rw [lset_eq, List.map_set]
                      have es : lset (seen.map bov) ht' (SV.val (.bool true)) = (seen.set ht' true).map bov := by rw [lset_eq, List.map_set]; rfl
                      refine CodeJ.seqI ?_
                      refine CodeJ.draw (.qs [0, 1, 2, 3, 4, 5] <| .q 6 [2, 3, 4] <| .qs [7, 8, 9, 10] <| .l 11 [4] <| .qs [12] <| .l 13 [3] <| .qs [14] <| .l 15 [2] <| .nil) (by kernel_rfl) (by kernel_rfl) (by simp) ?_
                      simp (disch := omega) [sl, fl, bl, lt, dt, lb, eb, ef, es, -Bool.exists_bool, -List.map_set]
                      repeat (refine And.intro (by omega) ?_)
                      refine CodeJ.go ?_
                      simp (disch := omega) [-Bool.exists_bool, -List.map_set]
                      repeat (refine And.intro (by omega) ?_)
                      refine CodeJ.go ?_
                      simp (disch := omega) [w64, -Bool.exists_bool, -List.map_set]
                      repeat (refine And.intro (by omega) ?_)
                      exact ⟨q + 1, true, _, _, _, ⟨by omega, U⟩, by omega, Le.syn (by simp (disch := omega) [leS, hC, w64, relT, restE, flowE, -List.map_set])⟩
                    | true =>
                      rw [c2] at lt
                      have wt := hb.r.qw hn hw htn c2
                      refine CodeJ.draw (.qs [0, 1, 2, 3, 4, 5, 6, 7, 8, 9, 10] <| .l 11 [] <| .qs [12, 13] <| .nil) (by kernel_rfl) (by kernel_rfl) (by simp) ?_
                      simp (disch := omega) [lt, dt, sl, fl, -Bool.exists_bool]
                      repeat (refine And.intro (by omega) ?_)
                      refine callS (cmpQ _ _ (qok_of wd (by omega)) (qok_of wt (by omega))) (by simp) ?_
                      by_cases c4 : gt far hf' + cst l (i, b) < gt far ht'
                      · simp (disch := omega) [c4, -Bool.exists_bool]
                        repeat (refine And.intro (by omega) ?_)
                        refine CodeJ.condI true (by simp) (fun _ => ?_) (fun q => by cases q)
                        have U := hb.upd hn hp (h := (i, b)) hil c3 (by rw [hhf]; exact c1) (by rw [hhf, hht]; exact .inr c4) i (q + 1)
                        rw [hhf, hht] at U
                        have eb : lset (bh.map hopV) ht' (SV.agg [SV.val (.int .i64 i), SV.val (.bool b)]) = (bh.set ht' (i, b)).map hopV := by rw [lset_eq, List.map_set]; rfl
                        have ef : lset (far.map rsv) ht' (rsv (gt far hf' + cst l (i, b))) = (far.set ht' (gt far hf' + cst l (i, b))).map rsv := by rw [lset_eq, List.map_set]
                        have es : lset (seen.map bov) ht' (SV.val (.bool true)) = (seen.set ht' true).map bov := by rw [lset_eq, List.map_set]; rfl
                        refine CodeJ.seqI ?_
                        refine CodeJ.draw (.qs [0, 1, 2, 3, 4, 5] <| .q 6 [2, 3, 4] <| .qs [7, 8, 9, 10] <| .l 11 [4] <| .qs [12] <| .l 13 [3] <| .qs [14] <| .l 15 [2] <| .nil) (by kernel_rfl) (by kernel_rfl) (by simp) ?_
                        simp (disch := omega) [sl, fl, bl, lt, dt, lb, eb, ef, es, -Bool.exists_bool, -List.map_set]
                        repeat (refine And.intro (by omega) ?_)
                        refine CodeJ.go ?_
                        simp (disch := omega) [-Bool.exists_bool, -List.map_set]
                        repeat (refine And.intro (by omega) ?_)
                        refine CodeJ.go ?_
                        simp (disch := omega) [w64, -Bool.exists_bool, -List.map_set]
                        repeat (refine And.intro (by omega) ?_)
                        exact ⟨q + 1, true, _, _, _, ⟨by omega, U⟩, by omega, Le.syn (by simp (disch := omega) [leS, hC, w64, relT, restE, flowE, -List.map_set])⟩
                      · simp (disch := omega) [c4, -Bool.exists_bool]
                        repeat (refine And.intro (by omega) ?_)
                        refine CodeJ.condI false (by simp) (fun q => by cases q) (fun _ => CodeJ.go ?_)
                        simp (disch := omega) [w64, -Bool.exists_bool]
                        repeat (refine And.intro (by omega) ?_)
                        refine CodeJ.go ?_
                        simp (disch := omega) [w64, -Bool.exists_bool]
                        repeat (refine And.intro (by omega) ?_)
                        exact ⟨q + 1, again, bh, far, seen, ⟨by omega, hb.more hbq fun _ _ => by rw [hhf, hht]; exact ⟨c2, Rat.not_lt.1 c4⟩⟩, by omega, Le.syn (by simp (disch := omega) [leS, hC, w64, relT, restE, flowE])⟩
                  · have c3' : room l x (i, b) ≤ 0 := Rat.not_lt.1 c3
                    refine CodeJ.go ?_
                    simp (disch := omega) [lf, sl, -Bool.exists_bool]
                    repeat (refine And.intro (by omega) ?_)
                    refine callT gR [0, 1] (by simp) (by simp) (by simp) (by simp) (by simp) ?_
                    rintro T y ⟨rfl, rfl⟩
                    simp (disch := omega) [lf, sl, -Bool.exists_bool]
                    repeat (refine And.intro (by omega) ?_)
                    refine callS (sgnQ (room l x (i, b))) (by simp) ?_
                    simp (disch := omega) [c3, c3', -Bool.exists_bool]
                    repeat (refine And.intro (by omega) ?_)
                    refine CodeJ.go ?_
                    simp (disch := omega) [w64, -Bool.exists_bool]
                    repeat (refine And.intro (by omega) ?_)
                    exact ⟨q + 1, again, bh, far, seen, ⟨by omega, hb.more hbq fun _ g => absurd g c3⟩, by omega, Le.syn (by simp (disch := omega) [leS, hC, w64, relT, restE, flowE])⟩
        · obtain rfl : i = l.length := by omega
          simp (disch := omega) [hil]
          repeat (refine And.intro (by omega) ?_)
          cases again with
          | false => exact .inl ⟨bh, far, seen, ⟨hb.r, (hb.n rfl).all⟩, by have := hb.m; omega, Le.syn (by simp (disch := omega) [leS, hC, w64, relT, restE, flowE])⟩
          | true => exact .inr ⟨bh, far, seen, hb.r, hb.a rfl, Le.syn (by simp (disch := omega) [leS, hC, w64, relT, restE, flowE])⟩
end Go.Proofs
namespace Go.Fl
open Go Go.Sv Go.Pl Go.Proofs Go.Tb Go.Ut Go.Ne
theorem nlL_rsvs (x : List Rat) : nlL (x.map rsv) = x.map rsv := by
  induction x with
  | nil => rfl
  | cons q x ih => rw [List.map_cons]; simp [nlV_rsv, ih]
theorem nlL_bovs (x : List Bool) : nlL (x.map bov) = x.map bov := by
  induction x with
  | nil => rfl
  | cons q x ih => rw [List.map_cons]; simp [ih]
theorem qw_costvK {l : List Arc} (hw : ArcW l) {flow : List Rat} (hf : Wd 2000000 flow) (hl : flow.length = l.length) : ∀ i, i ≤ l.length → qw (1 + 2002201 * i) (costv l flow i)
  | 0, _ => qw_zero _ (by omega)
  | i + 1, h => qw_mono (qw_add (qw_costvK hw hf hl i (by omega)) (qw_mul (hw.cost i (by omega)) (hf i (by omega)) (by omega))) (by omega)
theorem shipQ_mk0 (x p : List Rat) : SV.agg [.val (.bool false), .ro (x.map rsv), .ro (p.map rsv), .ro [], .val (.bool false), .ro [], .val (.bool false), .ro []] = shipQ ⟨false, x, p, [], 0⟩ := by
  have e : (rsv 0).cells = [.val (.bool false), .ro [], .val (.bool false), .ro []] := by rw [← rsv0]; rfl
  unfold shipQ
  simp only [e]; rfl
theorem shipQ_st (p : Ship) (c : Rat) : SV.agg (List.take 4 (shipQ p).cells ++ ((rsv c).cells ++ List.drop 8 (shipQ p).cells)) = shipQ { p with cost := c } := rfl
def zB (n : Nat) : Option Ent := some ⟨2, List.replicate n (.agg [.val (.int .i64 0), .val (.bool false)]), false⟩
def zF (n : Nat) : Option Ent := some ⟨4, List.replicate n (.agg [.val (.bool false), .val (.slice none 0 0), .val (.bool false), .val (.slice none 0 0)]), false⟩
def zS (n : Nat) : Option Ent := some ⟨1, List.replicate n (.val (.bool false)), false⟩
def seen1 (n s : Nat) : List Bool := (List.replicate n false).set s true
theorem seen1_eq {n s v : Nat} (hv : v < n) (h : gt (seen1 n s) v = true) : v = s := by
  unfold seen1 at h
  rw [gt_set (by simpa using hv)] at h
  by_cases e : s = v
  · exact e.symm
  · rw [if_neg e, gt_rep hv] at h; cases h
def CheapPhi (n : Nat) (l : List Arc) (x : List Rat) (π : Nat → Rat) (s : Nat) : Tab → SV → Prop := fun T y => T = restT n l x ∧ ∃ (bh : List Hop) (far : List Rat) (seen : List Bool), y = .tup [.ro (bh.map hopV), .ro (far.map rsv), .ro (seen.map bov)] ∧
  Rx n l x (Dc l) π (π s) (seen1 n s) bh far seen ∧ Near l x far seen
def cheapSt (eb ef es n : Nat) (l : List Arc) (x : List Rat) (s : Nat) (A : Tab) : St := ⟨36, [(0, .ptr 0 0 0), (1, iv s), (7, .view eb 0 n), (8, .view ef 0 n), (9, .view es 0 n)], restE n l 1 :: flowE x :: A⟩
def cheapI (n : Nat) (l : List Arc) (x : List Rat) (s : Nat) (st : St) : Prop := st = cheapSt 2 3 4 n l x s [zB n, zF n, zS n] ∨ st = cheapSt 2 4 3 n l x s [zB n, zS n, zF n] ∨ st = cheapSt 3 2 4 n l x s [zF n, zB n, zS n] ∨ st = cheapSt 4 2 3 n l x s [zF n, zS n, zB n] ∨ st = cheapSt 3 4 2 n l x s [zS n, zB n, zF n] ∨ st = cheapSt 4 3 2 n l x s [zS n, zF n, zB n]
end Go.Fl
namespace Go.Proofs
open Go.Sv Go Go.Tb Go.Pl Go.Ut Go.Ne Go.Fl
noncomputable def cheapBody : Code := Tryz.f193.body.getD .skip
set_option maxRecDepth 10000 in
theorem qCheap_A (n : Nat) (l : List Arc) (x : List Rat) (hn : Net n l) (hw : ArcW l) (hx : x.length = l.length) (h1 : ∀ i, i < l.length → qok (gt l i).cap) (h2 : ∀ i, i < l.length → qok (gt x i)) (π : Nat → Rat) (hp : PotOK l x π) (s : Nat) (hs : s < n) {C : Ctx} :
    CodeJ Tryz.prog C (dropC 2 cheapBody) (cheapSt 2 3 4 n l x s ([zB,zF,zS].map (· n))) (retH Tryz.prog Tryz.f193.results.toList [] (effK (restT n l x) [] (CheapPhi n l x π s))) := by
  have n2 := hn.n2
  have m := hn.m
  have hrr : Tryz.f193.results.toList = [.tmp 4, .tmp 5, .tmp 6] := rfl
  rw [hrr]
  have r0 : Rx n l x (Dc l) π (π s) (seen1 n s) (List.replicate n (0, false)) (List.replicate n 0) (seen1 n s) :=
    Rx.init (by simp) (by simp) (by simp [seen1]) (fun v hv => gt_rep hv) (fun v hv q => by rw [seen1_eq hv q]; exact Rat.le_refl)
  have gX := qRelax_ok n l x hn hw hx h1 h2 π (π s) (seen1 n s) hp _ _ _ r0
  simp only [relT, restE, flowE] at gX
  simp only [cheapBody, Tryz.f193, Option.getD_some, dropC_succ, dropC_zero, cheapSt, zB, zF, zS, restE, flowE, List.map_cons, List.map_nil]
  refine CodeJ.le (Le.nl _) ?_
  simp [nlS, nlL_rep, nlL_rsvs, rsv0, nlV_rsv]
  have lr := lget_rep (x := SV.val (.bool false)) hs
  have rs : lset (List.replicate n (SV.val (.bool false))) s (.val (.bool true)) = (seen1 n s).map bov := rep_set n s
  have rh := rep_hop n
  refine CodeJ.seqI (CodeJ.go ?_)
  simp (disch := omega) [lr, rs]
  repeat (refine And.intro (by omega) ?_)
  refine CodeJ.seqI (CodeJ.go ?_)
  simp
  have rz : List.replicate n (rsv 0) = (List.replicate n (0 : Rat)).map rsv := by simp
  rw [rh, rz]
  refine callT gX [0, 1, 2, 3, 4] (by simp) (by simp [-List.map_replicate]) (by simp) (by simp) (by simp) ?_
  rintro T y ⟨bh, far, seen, rfl, rfl, r, nr⟩
  have bl := r.bl
  have fl := r.fl
  have sl := r.sl
  have tb : (bh.map hopV).take n = bh.map hopV := List.take_of_length_le (by simp; omega)
  have tf : (far.map rsv).take n = far.map rsv := List.take_of_length_le (by simp; omega)
  have ts : (seen.map bov).take n = seen.map bov := List.take_of_length_le (by simp; omega)
  simp
  refine CodeJ.frz 2 rfl (by simp) ?_
  refine CodeJ.frz 3 (by simp [frzS, tget]; rfl) (by simp) ?_
  refine CodeJ.frz 4 (by simp [frzS, tget]; rfl) (by simp) ?_
  refine CodeJ.go ?_
  simp [frzS, bl, fl, sl, tb, tf, ts]
  exact ⟨_, _, ⟨rfl, bh, far, seen, rfl, r, nr⟩, rfl, by simp [leM, restT, restE, flowE], by simp [restT], by simp [restT, restE, flowE, ltM, ltL_map]⟩
set_option maxRecDepth 10000 in
theorem qCheap_B (n : Nat) (l : List Arc) (x : List Rat) (hn : Net n l) (hw : ArcW l) (hx : x.length = l.length) (h1 : ∀ i, i < l.length → qok (gt l i).cap) (h2 : ∀ i, i < l.length → qok (gt x i)) (π : Nat → Rat) (hp : PotOK l x π) (s : Nat) (hs : s < n) {C : Ctx} :
    CodeJ Tryz.prog C (dropC 2 cheapBody) (cheapSt 2 4 3 n l x s ([zB,zS,zF].map (· n))) (retH Tryz.prog Tryz.f193.results.toList [] (effK (restT n l x) [] (CheapPhi n l x π s))) := by
  have n2 := hn.n2
  have m := hn.m
  have hrr : Tryz.f193.results.toList = [.tmp 4, .tmp 5, .tmp 6] := rfl
  rw [hrr]
  have r0 : Rx n l x (Dc l) π (π s) (seen1 n s) (List.replicate n (0, false)) (List.replicate n 0) (seen1 n s) :=
    Rx.init (by simp) (by simp) (by simp [seen1]) (fun v hv => gt_rep hv) (fun v hv q => by rw [seen1_eq hv q]; exact Rat.le_refl)
  have gX := qRelax_ok n l x hn hw hx h1 h2 π (π s) (seen1 n s) hp _ _ _ r0
  simp only [relT, restE, flowE] at gX
  simp only [cheapBody, Tryz.f193, Option.getD_some, dropC_succ, dropC_zero, cheapSt, zB, zF, zS, restE, flowE, List.map_cons, List.map_nil]
  refine CodeJ.le (Le.nl _) ?_
  simp [nlS, nlL_rep, nlL_rsvs, rsv0, nlV_rsv]
  have lr := lget_rep (x := SV.val (.bool false)) hs
  have rs : lset (List.replicate n (SV.val (.bool false))) s (.val (.bool true)) = (seen1 n s).map bov := rep_set n s
  have rh := rep_hop n
  refine CodeJ.seqI (CodeJ.go ?_)
  simp (disch := omega) [lr, rs]
  repeat (refine And.intro (by omega) ?_)
  refine CodeJ.seqI (CodeJ.go ?_)
  simp
  have rz : List.replicate n (rsv 0) = (List.replicate n (0 : Rat)).map rsv := by simp
  rw [rh, rz]
  refine callT gX [0, 1, 2, 4, 3] (by simp) (by simp [-List.map_replicate]) (by simp) (by simp) (by simp) ?_
  rintro T y ⟨bh, far, seen, rfl, rfl, r, nr⟩
  have bl := r.bl
  have fl := r.fl
  have sl := r.sl
  have tb : (bh.map hopV).take n = bh.map hopV := List.take_of_length_le (by simp; omega)
  have tf : (far.map rsv).take n = far.map rsv := List.take_of_length_le (by simp; omega)
  have ts : (seen.map bov).take n = seen.map bov := List.take_of_length_le (by simp; omega)
  simp
  refine CodeJ.frz 2 rfl (by simp) ?_
  refine CodeJ.frz 4 (by simp [frzS, tget]; rfl) (by simp) ?_
  refine CodeJ.frz 3 (by simp [frzS, tget]; rfl) (by simp) ?_
  refine CodeJ.go ?_
  simp [frzS, bl, fl, sl, tb, tf, ts]
  exact ⟨_, _, ⟨rfl, bh, far, seen, rfl, r, nr⟩, rfl, by simp [leM, restT, restE, flowE], by simp [restT], by simp [restT, restE, flowE, ltM, ltL_map]⟩
set_option maxRecDepth 10000 in
theorem qCheap_C (n : Nat) (l : List Arc) (x : List Rat) (hn : Net n l) (hw : ArcW l) (hx : x.length = l.length) (h1 : ∀ i, i < l.length → qok (gt l i).cap) (h2 : ∀ i, i < l.length → qok (gt x i)) (π : Nat → Rat) (hp : PotOK l x π) (s : Nat) (hs : s < n) {C : Ctx} :
    CodeJ Tryz.prog C (dropC 2 cheapBody) (cheapSt 3 2 4 n l x s ([zF,zB,zS].map (· n))) (retH Tryz.prog Tryz.f193.results.toList [] (effK (restT n l x) [] (CheapPhi n l x π s))) := by
  have n2 := hn.n2
  have m := hn.m
  have hrr : Tryz.f193.results.toList = [.tmp 4, .tmp 5, .tmp 6] := rfl
  rw [hrr]
  have r0 : Rx n l x (Dc l) π (π s) (seen1 n s) (List.replicate n (0, false)) (List.replicate n 0) (seen1 n s) :=
    Rx.init (by simp) (by simp) (by simp [seen1]) (fun v hv => gt_rep hv) (fun v hv q => by rw [seen1_eq hv q]; exact Rat.le_refl)
  have gX := qRelax_ok n l x hn hw hx h1 h2 π (π s) (seen1 n s) hp _ _ _ r0
  simp only [relT, restE, flowE] at gX
  simp only [cheapBody, Tryz.f193, Option.getD_some, dropC_succ, dropC_zero, cheapSt, zB, zF, zS, restE, flowE, List.map_cons, List.map_nil]
  refine CodeJ.le (Le.nl _) ?_
  simp [nlS, nlL_rep, nlL_rsvs, rsv0, nlV_rsv]
  have lr := lget_rep (x := SV.val (.bool false)) hs
  have rs : lset (List.replicate n (SV.val (.bool false))) s (.val (.bool true)) = (seen1 n s).map bov := rep_set n s
  have rh := rep_hop n
  refine CodeJ.seqI (CodeJ.go ?_)
  simp (disch := omega) [lr, rs]
  repeat (refine And.intro (by omega) ?_)
  refine CodeJ.seqI (CodeJ.go ?_)
  simp
  have rz : List.replicate n (rsv 0) = (List.replicate n (0 : Rat)).map rsv := by simp
  rw [rh, rz]
  refine callT gX [0, 1, 3, 2, 4] (by simp) (by simp [-List.map_replicate]) (by simp) (by simp) (by simp) ?_
  rintro T y ⟨bh, far, seen, rfl, rfl, r, nr⟩
  have bl := r.bl
  have fl := r.fl
  have sl := r.sl
  have tb : (bh.map hopV).take n = bh.map hopV := List.take_of_length_le (by simp; omega)
  have tf : (far.map rsv).take n = far.map rsv := List.take_of_length_le (by simp; omega)
  have ts : (seen.map bov).take n = seen.map bov := List.take_of_length_le (by simp; omega)
  simp
  refine CodeJ.frz 3 rfl (by simp) ?_
  refine CodeJ.frz 2 (by simp [frzS, tget]; rfl) (by simp) ?_
  refine CodeJ.frz 4 (by simp [frzS, tget]; rfl) (by simp) ?_
  refine CodeJ.go ?_
  simp [frzS, bl, fl, sl, tb, tf, ts]
  exact ⟨_, _, ⟨rfl, bh, far, seen, rfl, r, nr⟩, rfl, by simp [leM, restT, restE, flowE], by simp [restT], by simp [restT, restE, flowE, ltM, ltL_map]⟩
set_option maxRecDepth 10000 in
theorem qCheap_D (n : Nat) (l : List Arc) (x : List Rat) (hn : Net n l) (hw : ArcW l) (hx : x.length = l.length) (h1 : ∀ i, i < l.length → qok (gt l i).cap) (h2 : ∀ i, i < l.length → qok (gt x i)) (π : Nat → Rat) (hp : PotOK l x π) (s : Nat) (hs : s < n) {C : Ctx} :
    CodeJ Tryz.prog C (dropC 2 cheapBody) (cheapSt 4 2 3 n l x s ([zF,zS,zB].map (· n))) (retH Tryz.prog Tryz.f193.results.toList [] (effK (restT n l x) [] (CheapPhi n l x π s))) := by
  have n2 := hn.n2
  have m := hn.m
  have hrr : Tryz.f193.results.toList = [.tmp 4, .tmp 5, .tmp 6] := rfl
  rw [hrr]
  have r0 : Rx n l x (Dc l) π (π s) (seen1 n s) (List.replicate n (0, false)) (List.replicate n 0) (seen1 n s) :=
    Rx.init (by simp) (by simp) (by simp [seen1]) (fun v hv => gt_rep hv) (fun v hv q => by rw [seen1_eq hv q]; exact Rat.le_refl)
  have gX := qRelax_ok n l x hn hw hx h1 h2 π (π s) (seen1 n s) hp _ _ _ r0
  simp only [relT, restE, flowE] at gX
  simp only [cheapBody, Tryz.f193, Option.getD_some, dropC_succ, dropC_zero, cheapSt, zB, zF, zS, restE, flowE, List.map_cons, List.map_nil]
  refine CodeJ.le (Le.nl _) ?_
  simp [nlS, nlL_rep, nlL_rsvs, rsv0, nlV_rsv]
  have lr := lget_rep (x := SV.val (.bool false)) hs
  have rs : lset (List.replicate n (SV.val (.bool false))) s (.val (.bool true)) = (seen1 n s).map bov := rep_set n s
  have rh := rep_hop n
  refine CodeJ.seqI (CodeJ.go ?_)
  simp (disch := omega) [lr, rs]
  repeat (refine And.intro (by omega) ?_)
  refine CodeJ.seqI (CodeJ.go ?_)
  simp
  have rz : List.replicate n (rsv 0) = (List.replicate n (0 : Rat)).map rsv := by simp
  rw [rh, rz]
  refine callT gX [0, 1, 4, 2, 3] (by simp) (by simp [-List.map_replicate]) (by simp) (by simp) (by simp) ?_
  rintro T y ⟨bh, far, seen, rfl, rfl, r, nr⟩
  have bl := r.bl
  have fl := r.fl
  have sl := r.sl
  have tb : (bh.map hopV).take n = bh.map hopV := List.take_of_length_le (by simp; omega)
  have tf : (far.map rsv).take n = far.map rsv := List.take_of_length_le (by simp; omega)
  have ts : (seen.map bov).take n = seen.map bov := List.take_of_length_le (by simp; omega)
  simp
  refine CodeJ.frz 4 rfl (by simp) ?_
  refine CodeJ.frz 2 (by simp [frzS, tget]; rfl) (by simp) ?_
  refine CodeJ.frz 3 (by simp [frzS, tget]; rfl) (by simp) ?_
  refine CodeJ.go ?_
  simp [frzS, bl, fl, sl, tb, tf, ts]
  exact ⟨_, _, ⟨rfl, bh, far, seen, rfl, r, nr⟩, rfl, by simp [leM, restT, restE, flowE], by simp [restT], by simp [restT, restE, flowE, ltM, ltL_map]⟩
set_option maxRecDepth 10000 in
theorem qCheap_E (n : Nat) (l : List Arc) (x : List Rat) (hn : Net n l) (hw : ArcW l) (hx : x.length = l.length) (h1 : ∀ i, i < l.length → qok (gt l i).cap) (h2 : ∀ i, i < l.length → qok (gt x i)) (π : Nat → Rat) (hp : PotOK l x π) (s : Nat) (hs : s < n) {C : Ctx} :
    CodeJ Tryz.prog C (dropC 2 cheapBody) (cheapSt 3 4 2 n l x s ([zS,zB,zF].map (· n))) (retH Tryz.prog Tryz.f193.results.toList [] (effK (restT n l x) [] (CheapPhi n l x π s))) := by
  have n2 := hn.n2
  have m := hn.m
  have hrr : Tryz.f193.results.toList = [.tmp 4, .tmp 5, .tmp 6] := rfl
  rw [hrr]
  have r0 : Rx n l x (Dc l) π (π s) (seen1 n s) (List.replicate n (0, false)) (List.replicate n 0) (seen1 n s) :=
    Rx.init (by simp) (by simp) (by simp [seen1]) (fun v hv => gt_rep hv) (fun v hv q => by rw [seen1_eq hv q]; exact Rat.le_refl)
  have gX := qRelax_ok n l x hn hw hx h1 h2 π (π s) (seen1 n s) hp _ _ _ r0
  simp only [relT, restE, flowE] at gX
  simp only [cheapBody, Tryz.f193, Option.getD_some, dropC_succ, dropC_zero, cheapSt, zB, zF, zS, restE, flowE, List.map_cons, List.map_nil]
  refine CodeJ.le (Le.nl _) ?_
  simp [nlS, nlL_rep, nlL_rsvs, rsv0, nlV_rsv]
  have lr := lget_rep (x := SV.val (.bool false)) hs
  have rs : lset (List.replicate n (SV.val (.bool false))) s (.val (.bool true)) = (seen1 n s).map bov := rep_set n s
  have rh := rep_hop n
  refine CodeJ.seqI (CodeJ.go ?_)
  simp (disch := omega) [lr, rs]
  repeat (refine And.intro (by omega) ?_)
  refine CodeJ.seqI (CodeJ.go ?_)
  simp
  have rz : List.replicate n (rsv 0) = (List.replicate n (0 : Rat)).map rsv := by simp
  rw [rh, rz]
  refine callT gX [0, 1, 3, 4, 2] (by simp) (by simp [-List.map_replicate]) (by simp) (by simp) (by simp) ?_
  rintro T y ⟨bh, far, seen, rfl, rfl, r, nr⟩
  have bl := r.bl
  have fl := r.fl
  have sl := r.sl
  have tb : (bh.map hopV).take n = bh.map hopV := List.take_of_length_le (by simp; omega)
  have tf : (far.map rsv).take n = far.map rsv := List.take_of_length_le (by simp; omega)
  have ts : (seen.map bov).take n = seen.map bov := List.take_of_length_le (by simp; omega)
  simp
  refine CodeJ.frz 3 rfl (by simp) ?_
  refine CodeJ.frz 4 (by simp [frzS, tget]; rfl) (by simp) ?_
  refine CodeJ.frz 2 (by simp [frzS, tget]; rfl) (by simp) ?_
  refine CodeJ.go ?_
  simp [frzS, bl, fl, sl, tb, tf, ts]
  exact ⟨_, _, ⟨rfl, bh, far, seen, rfl, r, nr⟩, rfl, by simp [leM, restT, restE, flowE], by simp [restT], by simp [restT, restE, flowE, ltM, ltL_map]⟩
set_option maxRecDepth 10000 in
theorem qCheap_F (n : Nat) (l : List Arc) (x : List Rat) (hn : Net n l) (hw : ArcW l) (hx : x.length = l.length) (h1 : ∀ i, i < l.length → qok (gt l i).cap) (h2 : ∀ i, i < l.length → qok (gt x i)) (π : Nat → Rat) (hp : PotOK l x π) (s : Nat) (hs : s < n) {C : Ctx} :
    CodeJ Tryz.prog C (dropC 2 cheapBody) (cheapSt 4 3 2 n l x s ([zS,zF,zB].map (· n))) (retH Tryz.prog Tryz.f193.results.toList [] (effK (restT n l x) [] (CheapPhi n l x π s))) := by
  have n2 := hn.n2
  have m := hn.m
  have hrr : Tryz.f193.results.toList = [.tmp 4, .tmp 5, .tmp 6] := rfl
  rw [hrr]
  have r0 : Rx n l x (Dc l) π (π s) (seen1 n s) (List.replicate n (0, false)) (List.replicate n 0) (seen1 n s) :=
    Rx.init (by simp) (by simp) (by simp [seen1]) (fun v hv => gt_rep hv) (fun v hv q => by rw [seen1_eq hv q]; exact Rat.le_refl)
  have gX := qRelax_ok n l x hn hw hx h1 h2 π (π s) (seen1 n s) hp _ _ _ r0
  simp only [relT, restE, flowE] at gX
  simp only [cheapBody, Tryz.f193, Option.getD_some, dropC_succ, dropC_zero, cheapSt, zB, zF, zS, restE, flowE, List.map_cons, List.map_nil]
  refine CodeJ.le (Le.nl _) ?_
  simp [nlS, nlL_rep, nlL_rsvs, rsv0, nlV_rsv]
  have lr := lget_rep (x := SV.val (.bool false)) hs
  have rs : lset (List.replicate n (SV.val (.bool false))) s (.val (.bool true)) = (seen1 n s).map bov := rep_set n s
  have rh := rep_hop n
  refine CodeJ.seqI (CodeJ.go ?_)
  simp (disch := omega) [lr, rs]
  repeat (refine And.intro (by omega) ?_)
  refine CodeJ.seqI (CodeJ.go ?_)
  simp
  have rz : List.replicate n (rsv 0) = (List.replicate n (0 : Rat)).map rsv := by simp
  rw [rh, rz]
  refine callT gX [0, 1, 4, 3, 2] (by simp) (by simp [-List.map_replicate]) (by simp) (by simp) (by simp) ?_
  rintro T y ⟨bh, far, seen, rfl, rfl, r, nr⟩
  have bl := r.bl
  have fl := r.fl
  have sl := r.sl
  have tb : (bh.map hopV).take n = bh.map hopV := List.take_of_length_le (by simp; omega)
  have tf : (far.map rsv).take n = far.map rsv := List.take_of_length_le (by simp; omega)
  have ts : (seen.map bov).take n = seen.map bov := List.take_of_length_le (by simp; omega)
  simp
  refine CodeJ.frz 4 rfl (by simp) ?_
  refine CodeJ.frz 3 (by simp [frzS, tget]; rfl) (by simp) ?_
  refine CodeJ.frz 2 (by simp [frzS, tget]; rfl) (by simp) ?_
  refine CodeJ.go ?_
  simp [frzS, bl, fl, sl, tb, tf, ts]
  exact ⟨_, _, ⟨rfl, bh, far, seen, rfl, r, nr⟩, rfl, by simp [leM, restT, restE, flowE], by simp [restT], by simp [restT, restE, flowE, ltM, ltL_map]⟩
set_option maxRecDepth 10000 in
theorem qCheap_ok (n : Nat) (l : List Arc) (x : List Rat) (hn : Net n l) (hw : ArcW l) (hx : x.length = l.length) (h1 : ∀ i, i < l.length → qok (gt l i).cap) (h2 : ∀ i, i < l.length → qok (gt x i)) (π : Nat → Rat) (hp : PotOK l x π) (s : Nat) (hs : s < n) :
    EffC Tryz.prog 193 [.ptr 0 0 0, iv s] (restT n l x) [] (CheapPhi n l x π s) := by
  have n2 := hn.n2
  refine eff_enterC Tryz.func193 rfl (by simp) (fun C hC => ?_)
  replace hC : C.fx = [0, 1] := hC
  show CodeJ _ _ cheapBody _ _
  refine CodeJ.cutAt 2 (cheapI n l x s) ?_ ?_
  · simp only [cheapBody, Tryz.f193, Option.getD_some, takeC_succ, takeC_zero, restT, restE, flowE]
    simp
    refine CodeJ.draw (.qs [0, 1, 2, 3, 5, 6, 7, 8, 10, 11, 12, 13] <| .alt 4 [] ( .qs [15] <| .alt 9 [] ( .qs [16] <| .l 14 [] <| .qs [17] <| .nil ) <| .alt 14 [] ( .l 9 [] <| .qs [16, 17] <| .nil ) <| .stop ) <| .alt 9 [] ( .alt 4 [] ( .qs [15, 16] <| .l 14 [] <| .qs [17] <| .nil ) <| .alt 14 [] ( .l 4 [] <| .qs [15, 16, 17] <| .nil ) <| .stop ) <| .alt 14 [] ( .alt 4 [] ( .qs [15] <| .l 9 [] <| .qs [16, 17] <| .nil ) <| .alt 9 [] ( .l 4 [] <| .qs [15, 16, 17] <| .nil ) <| .stop ) <| .stop) (by kernel_rfl) (by kernel_rfl) (by simp) ?_
    simp (disch := omega)
    repeat' apply And.intro
    all_goals first | omega | (refine ⟨_, .inl rfl, ?_⟩; simp [leS, cheapSt, zB, zF, zS, restE, flowE]; done) | (refine ⟨_, .inr (.inl rfl), ?_⟩; simp [leS, cheapSt, zB, zF, zS, restE, flowE]; done) | (refine ⟨_, .inr (.inr (.inl rfl)), ?_⟩; simp [leS, cheapSt, zB, zF, zS, restE, flowE]; done) | (refine ⟨_, .inr (.inr (.inr (.inl rfl))), ?_⟩; simp [leS, cheapSt, zB, zF, zS, restE, flowE]; done) | (refine ⟨_, .inr (.inr (.inr (.inr (.inl rfl)))), ?_⟩; simp [leS, cheapSt, zB, zF, zS, restE, flowE]; done) | (refine ⟨_, .inr (.inr (.inr (.inr (.inr rfl)))), ?_⟩; simp [leS, cheapSt, zB, zF, zS, restE, flowE]; done)
  · rintro st (rfl | rfl | rfl | rfl | rfl | rfl)
    · exact qCheap_A n l x hn hw hx h1 h2 π hp s hs
    · exact qCheap_B n l x hn hw hx h1 h2 π hp s hs
    · exact qCheap_C n l x hn hw hx h1 h2 π hp s hs
    · exact qCheap_D n l x hn hw hx h1 h2 π hp s hs
    · exact qCheap_E n l x hn hw hx h1 h2 π hp s hs
    · exact qCheap_F n l x hn hw hx h1 h2 π hp s hs
set_option maxRecDepth 10000 in
theorem qFilled_ok (n : Nat) (hn : n ≤ 60) : EffC Tryz.prog 232 [iv n, bov true] [] [] (fun T y => T = [some ⟨1, (List.replicate n true).map bov, false⟩] ∧ y = .view 0 0 n) := by
  refine eff_enter Tryz.func232 rfl (by simp) (fun C hC => ?_)
  replace hC : C.fx = [] := hC
  simp
  refine ⟨by omega, ?_⟩
  refine CodeJ.loopL (ι := Nat) (fun i => ⟨20, [(1, bov true), (5, .view 0 0 n), (10, iv n), (11, iv i)], [some ⟨1, List.replicate i (bov true) ++ List.replicate (n - i) (.val (.bool false)), false⟩]⟩)
    (fun i => i ≤ n) (fun i => n - i) 0 (by simp) ?_ ?_
  · simp [leS, hC]
  · rintro i hi
    by_cases hlt : i < n
    · have e1 := lget_fill (A := List.replicate i (SV.val (.bool true))) (n := n) (v := i) (z := .val (.bool false)) (by simp) hlt
      have e2 := lset_fill (A := List.replicate i (SV.val (.bool true))) (n := n) (v := i) (z := .val (.bool false)) (y := .val (.bool true)) (by simp) hlt
      simp (disch := omega) [hlt, e1, e2, w64]
      repeat (refine And.intro (by omega) ?_)
      exact ⟨i + 1, by omega, by omega, Le.syn (by simp (disch := omega) [leS, hC, w64, List.replicate_succ' (n := i), ltL_rep])⟩
    · obtain rfl : n = i := by omega
      simp
      exact ⟨_, _, ⟨rfl, rfl⟩, rfl, by simp [leM], by simp⟩
set_option maxRecDepth 10000 in
/-- a plan out of a flow to which nothing is cheaper -/
theorem qDone_ok (n : Nat) (l : List Arc) (x : List Rat) (hn : Net n l) (hw : ArcW l) (hx : x.length = l.length) (h1 : ∀ i, i < l.length → qok (gt l i).cap) (wx : Wd 2000000 x) (π : Nat → Rat) (hp : PotOK l x π) :
    EffC Tryz.prog 192 [.ptr 0 0 0] (restT n l x) [] (fun T y => T = [none, none] ∧ ∃ (far : List Rat) (seen : List Bool), y = .rop (shipQ ⟨false, x, far, [], costv l x l.length⟩) 0 ∧ far.length = n ∧ (∀ v, v < n → gt seen v = true) ∧ Near l x far seen ∧ Wd 1400000 far) := by
  have n2 := hn.n2
  have m := hn.m
  have h2 : ∀ i, i < l.length → qok (gt x i) := fun i hi => qok_of (wx i (by omega)) (by omega)
  obtain ⟨K, hK⟩ := ex_max π n
  have r0 : Rx n l x (Dc l) π K (List.replicate n true) (List.replicate n (0, false)) (List.replicate n 0) (List.replicate n true) :=
    Rx.init (by simp) (by simp) (by simp) (fun v hv => gt_rep hv) (fun v hv _ => hK v hv)
  have gX := qRelax_ok n l x hn hw hx h1 h2 π K (List.replicate n true) hp _ _ _ r0
  simp only [relT, restE, flowE] at gX
  refine eff_enterC Tryz.func192 rfl (by simp) (fun C hC => ?_)
  replace hC : C.fx = [0, 1] := hC
  simp only [Tryz.f192, restT, restE, flowE]
  refine CodeJ.seqI (CodeJ.go ?_)
  simp
  refine CodeJ.seqI (CodeJ.go ?_)
  simp
  refine CodeJ.seqI (CodeJ.go ?_)
  simp
  refine callT (qFilled_ok n n2) [] (by simp) (by simp) (by simp) (by simp) (by simp) ?_
  rintro T y ⟨rfl, rfl⟩
  simp [-List.map_replicate]
  refine CodeJ.seqI (CodeJ.go ?_)
  simp [-List.map_replicate]
  repeat (refine And.intro (by omega) ?_)
  refine CodeJ.le (Le.nl _) ?_
  simp [nlS, nlL_rep, nlL_rsvs, nlL_bovs, rsv0, nlV_rsv, -List.map_replicate]
  refine CodeJ.seqI ?_
  refine CodeJ.draw (.qs [0, 1, 2, 3, 4, 6, 7, 8, 9, 10] <| .l 5 [] <| .l 11 [0, 1, 3, 4, 5, 1000000] <| .nil) (by kernel_rfl) (by kernel_rfl) (by simp) ?_
  simp [-List.map_replicate]
  have rz : List.replicate n (rsv 0) = (List.replicate n (0 : Rat)).map rsv := by simp
  rw [rep_hop n, rz]
  refine ⟨by omega, ?_⟩
  refine callT gX [0, 1, 5, 4, 3] (by simp) (by simp [-List.map_replicate]) (by simp) (by simp) (by simp) ?_
  rintro T y ⟨bh, far, seen, rfl, rfl, r, nr⟩
  have fl := r.fl
  have tf : (far.map rsv).take n = far.map rsv := List.take_of_length_le (by simp; omega)
  have tx : (x.map rsv).take l.length = x.map rsv := List.take_of_length_le (by simp; omega)
  simp
  refine CodeJ.frz 1 rfl (by simp) ?_
  refine CodeJ.frz 4 (by simp [frzS, tget]; rfl) (by simp) ?_
  simp [frzS, fl, hx, tf, tx, shipQ_mk0]
  refine CodeJ.go ?_
  simp
  refine CodeJ.loopC (ι := Nat) (fun i => ⟨68, [(0, .ptr 0 0 0), (3, .ptr 2 0 0), (41, .ro (l.map arcQ)), (42, iv l.length), (43, iv i)], [some ⟨3, [.agg [iv n, .ro (l.map arcQ), .ro (x.map rsv)]], false⟩, none, some ⟨8, [shipQ ⟨false, x, far, [], costv l x i⟩], false⟩]⟩)
    (fun i => i ≤ l.length) (fun i => l.length - i) 0 (by simp) ?_ ?_
  · simp [leS, hC, costv]
  · rintro i hi
    by_cases hlt : i < l.length
    · have wc := hw.cost i hlt
      have q2 := wx i (by omega)
      have q3 := qw_costvK hw wx hx i hi
      have q4 := qw_mul wc q2 (by omega)
      have la := lget_arcQ hlt
      have lx := lget_r (l := x) (i := i) (by omega)
      refine CodeJ.go ?_
      simp (disch := omega) [hlt, la]
      repeat (refine And.intro (by omega) ?_)
      refine CodeJ.draw (.qs [0, 1, 2, 3, 4, 5, 6, 7, 8, 9, 10, 11, 12, 13] <| .l 14 [] <| .l 15 [] <| .qs [16, 17] <| .l 18 [2] <| .nil) (by kernel_rfl) (by kernel_rfl) (by simp) ?_
      simp (disch := omega) [hlt, la, lx, hx]
      repeat (refine And.intro (by omega) ?_)
      refine callS (qMul_ok _ _ (qok_of wc (by omega)) (qok_of q2 (by omega))) (by simp) ?_
      simp
      repeat (refine And.intro (by omega) ?_)
      refine callS (qAdd_ok _ _ (qok_of q3 (by omega)) (qok_of q4 (by omega))) (by simp) ?_
      simp (disch := omega) [w64]
      repeat (refine And.intro (by omega) ?_)
      exact ⟨i + 1, by omega, by omega, Le.syn (by simp (disch := omega) [leS, hC, w64, costv, shipQ_st])⟩
    · obtain rfl : i = l.length := by omega
      refine CodeJ.frz 2 rfl (by simp) ?_
      refine CodeJ.go ?_
      simp [frzS]
      exact ⟨_, _, ⟨rfl, far, rfl, fl, seen, fun v hv => r.sub v hv (gt_rep hv), nr, fun v hv => r.qw hn hw (by omega) (r.sub v (by omega) (gt_rep (by omega)))⟩, rfl, by simp [leM], by simp, by simp [ltM]⟩
end Go.Proofs

