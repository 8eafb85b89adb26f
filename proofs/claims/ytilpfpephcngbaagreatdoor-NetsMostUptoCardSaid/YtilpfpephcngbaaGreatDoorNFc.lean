/- What the functions of a net's rest return that look at an arc. How far one comes in a net: what (*rest).reach returns. A text of the prover's own. -/
import Derived.Test.YtilpfpephcngbaaGreatDoorNFa
import Derived.Test.YtilpfpephcngbaaGreatDoorNVe
import Derived.Test.YtilpfpephcngbaaGreatDoorNVr
import Derived.Test.YtilpfpephcngbaaGreatDoorNVz
namespace Go.Fl
open Go Go.Sv Go.Pl Go.Proofs Go.Tb Go.Ut Go.Ne
def hopV (h : Hop) : SV := .agg [iv h.1, bov h.2]
def restE (n : Nat) (l : List Arc) (k : Nat) : Option Ent := some ⟨3, [.agg [iv n, .ro (l.map arcQ), .view k 0 l.length]], false⟩
def flowE (x : List Rat) : Option Ent := some ⟨4, x.map rsv, false⟩
def restT (n : Nat) (l : List Arc) (x : List Rat) : Tab := [restE n l 1, flowE x]
theorem lget_hop {l : List Hop} {i : Nat} (h : i < l.length) : lget (l.map hopV) i = hopV (gt l i) := lget_m _ h
@[simp] theorem renL_rsv (σ : Nat → Nat) (y : List Rat) : renL σ (y.map rsv) = y.map rsv := renL_pure σ _ (by simp)
end Go.Fl
namespace Go.Proofs
open Go.Sv Go Go.Tb Go.Pl Go.Ut Go.Ne Go.Fl
set_option maxRecDepth 10000 in
theorem qRoom_ok (n : Nat) (l : List Arc) (x : List Rat) (hx : x.length = l.length) (i : Nat) (b : Bool) (hi : i < l.length) (h1 : qok (gt l i).cap) (h2 : qok (gt x i)) :
    EffC Tryz.prog 230 [.ptr 0 0 0, iv i, bov b] (restT n l x) [] (fun T y => T = restT n l x ∧ y = rsv (room l x (i, b))) := by
  have l1 := lget_arcQ hi
  have l2 := lget_r (l := x) (i := i) (by omega)
  refine eff_enter Tryz.func230 rfl (by simp) (fun C hC => ?_)
  simp only [restT, restE, flowE]
  have ltA : SV.ltL 2 (l.map arcQ) = true := by simp [ltL_map]
  have ltR : SV.ltL 2 (x.map rsv) = true := by simp [ltL_map]
  cases b with
  | true =>
    simp (disch := omega) [l1, l2, hx]
    repeat (refine And.intro (by omega) ?_)
    exact ⟨_, _, ⟨rfl, rfl⟩, by simp [room], by simp [leM], by simp, by simp [ltM, ltL_map]⟩
  | false =>
    simp (disch := omega) [l1, l2, hx]
    repeat (refine And.intro (by omega) ?_)
    refine CodeJ.draw (.qs [0, 1, 2, 3, 4, 5, 6, 7, 8, 9, 10, 11, 12, 13, 14] <| .l 15 [] <| .l 16 [2] <| .nil) (by kernel_rfl) (by kernel_rfl) (by simp) ?_
    simp (disch := omega) [l1, l2, hx]
    repeat (refine And.intro (by omega) ?_)
    refine callS (qSub_ok _ _ h1 h2) (by simp) ?_
    simp (disch := omega) [l1, l2, hx]
    repeat (refine And.intro (by omega) ?_)
    exact ⟨_, _, ⟨rfl, rfl⟩, by simp [room], by simp [leM], by simp, by simp [ltM, ltL_map]⟩
set_option maxRecDepth 10000 in
theorem qAhead_ok (n : Nat) (l : List Arc) (x : List Rat) (hn : Net n l) (h : Hop) (hi : h.1 < l.length) :
    EffC Tryz.prog 231 [.ptr 0 0 0, hopV h] (restT n l x) [] (fun T y => T = restT n l x ∧ y = iv (hfr l h)) := by
  obtain ⟨i, b⟩ := h
  have l1 := lget_arcQ hi
  obtain ⟨f, t, ef, et, hf, ht⟩ := hn.a i hi
  refine eff_enter Tryz.func231 rfl (by simp) (fun C hC => ?_)
  simp only [restT, restE, flowE, hopV]
  cases b with
  | true =>
    simp (disch := omega) [l1]
    repeat (refine And.intro (by omega) ?_)
    refine CodeJ.draw (.qs [0, 1, 2, 3, 4, 5, 6, 7, 8, 9] <| .nil) (by kernel_rfl) (by kernel_rfl) (by simp) ?_
    simp (disch := omega) [l1, ef, et]
    repeat (refine And.intro (by omega) ?_)
    exact ⟨_, _, ⟨rfl, rfl⟩, by simp [hfr, et], by simp [leM], by simp, by simp [ltM, ltL_map]⟩
  | false =>
    simp (disch := omega) [l1]
    repeat (refine And.intro (by omega) ?_)
    refine CodeJ.draw (.qs [0, 1, 2, 3, 4, 5, 6, 7, 8, 9] <| .nil) (by kernel_rfl) (by kernel_rfl) (by simp) ?_
    simp (disch := omega) [l1, ef, et]
    repeat (refine And.intro (by omega) ?_)
    exact ⟨_, _, ⟨rfl, rfl⟩, by simp [hfr, ef], by simp [leM], by simp, by simp [ltM, ltL_map]⟩
end Go.Proofs
namespace Go.Fl
open Go Go.Sv Go.Pl Go.Proofs Go.Tb Go.Ut Go.Ne
def nv (i : Nat) : SV := iv i
@[simp] theorem nv_iv (i : Nat) : nv i = iv i := rfl
@[simp] theorem hopV_csz (h : Hop) : (hopV h).csz = 2 := rfl
@[simp] theorem hopV_isTup (h : Hop) : (hopV h).isTup = false := rfl
@[simp] theorem hopV_isAgg (h : Hop) : (hopV h).isAgg = true := rfl
@[simp] theorem hopV_one (h : Hop) : (hopV h).one = false := rfl
@[simp] theorem hopV_pure (h : Hop) : (hopV h).pure = true := rfl
@[simp] theorem hopV_lt (n : Nat) (h : Hop) : (hopV h).lt n = true := rfl
@[simp] theorem hopV_uses (n : Nat) (h : Hop) : (hopV h).uses n = false := rfl
@[simp] theorem hopV_ks (h : Hop) : (hopV h).ks = [] := rfl
theorem lget_bv {l : List Bool} {i : Nat} (h : i < l.length) : lget (l.map bov) i = bov (gt l i) := lget_m _ h
theorem rep_hop (n : Nat) : List.replicate n (SV.agg [.val (.int .i64 0), .val (.bool false)]) = (List.replicate n ((0 : Nat), false)).map hopV := by
  rw [List.map_replicate]; rfl
theorem rep_set (n s : Nat) : lset (List.replicate n (SV.val (.bool false))) s (.val (.bool true)) = ((List.replicate n false).set s true).map bov := by
  rw [lset_eq, List.map_set, List.map_replicate]; rfl
theorem lget_rep {n i : Nat} {x : SV} (h : i < n) : lget (List.replicate n x) i = x := by
  rw [lget_eq (by simpa using h)]; simp
theorem gt_pre {pre td : List Nat} {u : Nat} : lget ((pre ++ u :: td).map nv) pre.length = iv u := by
  rw [lget_m _ (by simp)]; simp [gt]
theorem usesL_hops (k : Nat) (l : List Hop) : SV.usesL k (l.map hopV) = false := by simp [usesL_map]
theorem usesL_bovs (k : Nat) (l : List Bool) : SV.usesL k (l.map bov) = false := by simp [usesL_map]
theorem ltL_hops (k : Nat) (l : List Hop) : SV.ltL k (l.map hopV) = true := by simp [ltL_map]
theorem ltL_bovs (k : Nat) (l : List Bool) : SV.ltL k (l.map bov) = true := by simp [ltL_map]
def bySeen (sw : Bool) (bh : List Hop) (seen : List Bool) : Tab := if sw = true then [some ⟨2, bh.map hopV, false⟩, some ⟨1, seen.map bov, false⟩] else [some ⟨1, seen.map bov, false⟩, some ⟨2, bh.map hopV, false⟩]
end Go.Fl
namespace Go.Proofs
open Go.Sv Go Go.Tb Go.Pl Go.Ut Go.Ne Go.Fl
noncomputable def reachBody : Code := Tryz.f187.body.getD .skip
def ReachPhi (n : Nat) (l : List Arc) (x : List Rat) (s : Nat) : Tab → SV → Prop := fun T y => T = restT n l x ∧ ∃ (bh : List Hop) (seen : List Bool), y = .tup [.ro (bh.map hopV), .ro (seen.map bov)] ∧ Go.Fl.Reach n l x s bh seen
def reachSt (sw : Bool) (n : Nat) (l : List Arc) (x : List Rat) (s : Nat) : St := ⟨95, [(0, .ptr 0 0 0), (1, iv s), (6, .view (if sw = true then 2 else 3) 0 n), (7, .view (if sw = true then 3 else 2) 0 n)], restE n l 1 :: flowE x :: bySeen sw (List.replicate n (0, false)) (List.replicate n false)⟩
set_option maxRecDepth 10000 in
theorem qReach_true (n : Nat) (l : List Arc) (x : List Rat) (hn : Net n l) (hx : x.length = l.length) (s : Nat) (hs : s < n) (h1 : ∀ i, i < l.length → qok (gt l i).cap) (h2 : ∀ i, i < l.length → qok (gt x i)) {C : Ctx} (hC : C.fx = [0, 1]) :
    CodeJ Tryz.prog C (dropC 2 reachBody) (reachSt true n l x s) (retH Tryz.prog Tryz.f187.results.toList [] (effK (restT n l x) [] (ReachPhi n l x s))) := by
  have n2 := hn.n2
  have m := hn.m
  have hrr : Tryz.f187.results.toList = [.tmp 4, .tmp 5] := rfl
  rw [hrr]
  simp only [reachBody, Tryz.f187, Option.getD_some, dropC_succ, dropC_zero, reachSt, bySeen, restE, flowE, ReachPhi]
  have lr := lget_rep (x := SV.val (.bool false)) hs
  refine CodeJ.go ?_
  simp (disch := omega) [lr, rep_set]
  repeat (refine And.intro (by omega) ?_)
  refine CodeJ.loopC (ι := List Nat × List Nat × List Nat × List Hop × List Bool) (fun ⟨dn, td, pre, bh, seen⟩ => ⟨95, [(0, .ptr 0 0 0), (6, .view 2 0 n), (7, .view 3 0 n), (8, .view 4 pre.length td.length)], restE n l 1 :: flowE x :: (bySeen true bh seen ++ [some ⟨1, (pre ++ td).map nv, false⟩])⟩)
    (fun ⟨dn, td, pre, bh, seen⟩ => Bfs n l x s bh seen dn td) (fun ⟨dn, td, pre, bh, seen⟩ => td.length + falses seen) ([], [s], [], List.replicate n (0, false), (List.replicate n false).set s true) (Bfs.init hs) ?_ ?_
  · simp [leS, hC, bySeen, restE, flowE, rep_hop]
  · rintro ⟨dn, td, pre, bh, seen⟩ hb
    have hb : Bfs n l x s bh seen dn td := hb
    simp only [bySeen, restE, flowE]
    cases td with
    | nil =>
      refine CodeJ.frz 2 rfl (by simp) ?_
      refine CodeJ.frz 3 (by simp [frzS, tget]; rfl) (by simp) ?_
      refine CodeJ.go ?_
      have bl := hb.bl
      have sl := hb.sl
      have tb : (bh.map hopV).take n = bh.map hopV := List.take_of_length_le (by simp; omega)
      have ts : (seen.map bov).take n = seen.map bov := List.take_of_length_le (by simp; omega)
      simp [frzS, bl, sl, tb, ts]
      exact ⟨_, _, ⟨rfl, bh, seen, rfl, hb.done⟩, rfl, by simp [leM, restT, restE, flowE], by simp [restT], by simp [restT, restE, flowE, ltM, ltL_map]⟩
    | cons u td =>
      refine CodeJ.go ?_
      simp [-List.map_append, -List.map_cons]
      refine CodeJ.loopL (ι := Nat × List Nat × List Nat × List Hop × List Bool) (fun ⟨i, td, pre, bh, seen⟩ => ⟨95, [(0, .ptr 0 0 0), (6, .view 2 0 n), (7, .view 3 0 n), (8, .view 4 pre.length (td.length + 1)), (38, .ro (l.map arcQ)), (39, iv l.length), (40, iv i)], restE n l 1 :: flowE x :: (bySeen true bh seen ++ [some ⟨1, (pre ++ u :: td).map nv, false⟩])⟩)
        (fun ⟨i, td, pre, bh, seen⟩ => i ≤ l.length ∧ Bfs n l x s bh seen dn (u :: td) ∧ Part l x (dn ++ u :: td) u i 0) (fun ⟨i, td, pre, bh, seen⟩ => l.length - i) (0, td, pre, bh, seen) ⟨by omega, hb, Part.zero⟩ ?_ ?_
      · simp [leS, hC, bySeen, restE, flowE]
      · have ct0 := hb.ct
        clear hb
        rintro ⟨i, td, pre, bh, seen⟩ ⟨hi, hb, hp⟩
        simp only [bySeen, restE, flowE]
        by_cases hil : i < l.length
        · have la := lget_arcQ hil
          simp (disch := omega) [hil, la, -List.map_append, -List.map_cons]
          repeat (refine And.intro (by omega) ?_)
          refine CodeJ.loopC (ι := Nat × List Nat × List Nat × List Hop × List Bool) (fun ⟨q, td, pre, bh, seen⟩ => ⟨95, [(0, .ptr 0 0 0), (6, .view 2 0 n), (7, .view 3 0 n), (8, .view 4 pre.length (td.length + 1)), (9, iv i), (10, .ptr 5 0 0), (38, .ro (l.map arcQ)), (39, iv l.length), (40, iv i), (45, .view 6 0 2), (46, iv 2), (47, iv q)], restE n l 1 :: flowE x :: (bySeen true bh seen ++ [some ⟨1, (pre ++ u :: td).map nv, false⟩, some ⟨10, [arcQ (gt l i)], false⟩, some ⟨1, [bov false, bov true], false⟩])⟩)
            (fun ⟨q, td, pre, bh, seen⟩ => q ≤ 2 ∧ Bfs n l x s bh seen dn (u :: td) ∧ Part l x (dn ++ u :: td) u i q) (fun ⟨q, td, pre, bh, seen⟩ => 2 - q) (0, td, pre, bh, seen) ⟨by omega, hb, hp⟩ ?_ ?_
          · simp [leS, hC, bySeen, restE, flowE]
          · clear hb hp
            rintro ⟨q, td, pre, bh, seen⟩ ⟨hq, hb, hp⟩
            simp only [bySeen, restE, flowE]
            by_cases hq2 : q = 2
            · subst hq2
              refine CodeJ.go ?_
              simp (disch := omega) [-List.map_append, -List.map_cons, w64]
              repeat (refine And.intro (by omega) ?_)
              exact ⟨i + 1, td, pre, bh, seen, ⟨by omega, hb, hp.both⟩, by omega, Le.syn (by simp (disch := omega) [leS, hC, w64])⟩
            · have hq3 : (q : Int) < 2 := by omega
              refine CodeJ.seqI (CodeJ.go ?_)
              simp (disch := omega) [-List.map_append, -List.map_cons, hq3]
              repeat (refine And.intro (by omega) ?_)
              refine CodeJ.seqI (CodeJ.go ?_)
              simp (disch := omega) [-List.map_append, -List.map_cons, hq3]
              repeat (refine And.intro (by omega) ?_)
              refine CodeJ.seqI (CodeJ.blockI ?_)
              refine CodeJ.seqI (CodeJ.go ?_)
              obtain ⟨b, hbq⟩ : ∃ b : Bool, (if b = true then 1 else 0) = q := by
                rcases (show q = 0 ∨ q = 1 by omega) with e | e
                · exact ⟨false, by simp [e]⟩
                · exact ⟨true, by simp [e]⟩
              have lq : lget [SV.val (.bool false), SV.val (.bool true)] q = .val (.bool b) := by
                cases b <;> (simp at hbq; subst hbq; rfl)
              simp (disch := omega) [-List.map_append, -List.map_cons, lq]
              repeat (refine And.intro (by omega) ?_)
              obtain ⟨f, t, ef, et, hf, ht⟩ := hn.a i hil
              refine CodeJ.seqI ?_
              refine CodeJ.draw (.qs [0, 1, 2, 3, 4, 5] <| .nil) (by kernel_rfl) (by kernel_rfl) (by simp) ?_
              simp (disch := omega) [-List.map_append, -List.map_cons, ef, et]
              repeat (refine And.intro (by omega) ?_)
              have e1 : hfr l (i, b) = if b = true then t else f := by unfold hfr; cases b <;> simp [ef, et]
              have e2 : hto l (i, b) = if b = true then f else t := by unfold hto; cases b <;> simp [ef, et]
              refine CodeJ.seqI (CodeJ.cut (fun e st' => e = .normal ∧ leS C st' ⟨95, [(0, .ptr 0 0 0), (6, .view 2 0 n), (7, .view 3 0 n), (8, .view 4 pre.length (td.length + 1)), (9, iv i), (10, .ptr 5 0 0), (12, bov b), (13, iv (hfr l (i, b))), (14, iv (hto l (i, b))), (38, .ro (l.map arcQ)), (39, iv l.length), (40, iv i), (45, .view 6 0 2), (46, iv 2), (47, iv q)], restE n l 1 :: flowE x :: (bySeen true bh seen ++ [some ⟨1, (pre ++ u :: td).map nv, false⟩, some ⟨10, [arcQ (gt l i)], false⟩, some ⟨1, [bov false, bov true], false⟩])⟩) ?_ ?_)
              · cases b <;> (refine CodeJ.go ?_; simp [-List.map_append, -List.map_cons, leS, hC, e1, e2, bySeen, restE, flowE])
              · rintro e st' ⟨rfl, hst⟩
                refine ⟨_, hst, ?_⟩
                clear hst st'
                simp only [thn, bySeen, restE, flowE]
                have hfn : hfr l (i, b) < n := by rw [e1]; split <;> omega
                have htn : hto l (i, b) < n := by rw [e2]; split <;> omega
                have bl := hb.bl
                have sl := hb.sl
                have lt := lget_bv (l := seen) (i := hto l (i, b)) (by omega)
                have l0 : lget ((pre ++ u :: td).map nv) pre.length = iv u := gt_pre
                have lpt : pre.length < (pre ++ u :: td).length := by simp
                clear e1 e2 lq
                generalize hhf : hfr l (i, b) = hf' at *
                generalize hht : hto l (i, b) = ht' at *
                by_cases c1 : hf' = u
                · subst c1
                  cases c2 : gt seen ht' with
                  | true =>
                    rw [c2] at lt
                    refine CodeJ.go ?_
                    simp (disch := omega) [-List.map_append, -List.map_cons, lt, l0, sl]
                    repeat (refine And.intro (by omega) ?_)
                    refine CodeJ.go ?_
                    simp (disch := omega) [-List.map_append, -List.map_cons, w64]
                    repeat (refine And.intro (by omega) ?_)
                    refine ⟨q + 1, td, pre, bh, seen, ⟨by omega, hb, hp.more hbq fun _ _ _ => ?_⟩, by omega, Le.syn (by simp (disch := omega) [leS, hC, w64])⟩
                    rw [hht]; exact (hb.sn _ htn).1 c2
                  | false =>
                    rw [c2] at lt
                    have gR := qRoom_ok n l x hx i b hil (h1 i hil) (h2 i hil)
                    simp only [restT, restE, flowE] at gR
                    by_cases c3 : 0 < room l x (i, b)
                    · refine CodeJ.seqI (CodeJ.go ?_)
                      simp (disch := omega) [-List.map_append, -List.map_cons, lt, l0, sl]
                      repeat (refine And.intro (by omega) ?_)
                      refine callT gR [0, 1] (by simp) (by simp) (by simp) (by simp) (by simp) ?_
                      rintro T y ⟨rfl, rfl⟩
                      simp (disch := omega) [-List.map_append, -List.map_cons, lt, l0, sl]
                      repeat (refine And.intro (by omega) ?_)
                      refine callS (sgnQ (room l x (i, b))) (by simp) ?_
                      simp (disch := omega) [-List.map_append, -List.map_cons, lt, l0, sl, c3]
                      repeat (refine And.intro (by omega) ?_)
                      refine CodeJ.condI true (by simp) (fun _ => ?_) (fun q => by cases q)
                      refine CodeJ.seqI (CodeJ.go ?_)
                      have lb := lget_hop (l := bh) (i := ht') (by omega)
                      simp (disch := omega) [-List.map_append, -List.map_cons, lt, lb, sl, bl]
                      repeat (refine And.intro (by omega) ?_)
                      refine CodeJ.regionI ?_
                      refine OpsJ.step rfl ?_
                      simp [-List.map_append, -List.map_cons]
                      refine OpsJ.step rfl ?_
                      simp [-List.map_append, -List.map_cons]
                      refine OpsJ.step rfl ?_
                      simp [-List.map_append, -List.map_cons]
                      have k1 : tyOf Tryz.prog 30 = some ⟨.sl 3, 1, 24, [.val (.slice none 0 0)]⟩ := by simp
                      have k2 : tyOf Tryz.prog 3 = some ⟨.int .i64, 1, 8, [.val (.int .i64 0)]⟩ := by simp
                      have ub : SV.usesL 4 (lset (bh.map hopV) ht' (SV.agg [SV.val (.int .i64 i), SV.val (.bool b)])) = false := by
                        rw [lset_eq, show SV.agg [SV.val (.int .i64 i), SV.val (.bool b)] = hopV (i, b) from rfl, ← List.map_set]; exact usesL_hops _ _
                      have us : SV.usesL 4 (lset (seen.map bov) ht' (SV.val (.bool true))) = false := by
                        rw [lset_eq, show SV.val (.bool true) = bov true from rfl, ← List.map_set]; exact usesL_bovs _ _
                      have htd : td.length + 1 ≤ n := by
                        have := hb.ct
                        simp only [List.length_append, List.length_cons] at this
                        omega
                      have hb2 := hb.found (h := (i, b)) hil (by rw [hhf]; simp) c3 (by rw [hht]; exact htn) (by rw [hht]; exact c2)
                      rw [hht] at hb2
                      have hp2 : Part l x (dn ++ hf' :: (td ++ [ht'])) hf' i (q + 1) := (hp.mono (fun v hv => by
                        rcases List.mem_append.1 hv with g | g
                        · exact List.mem_append.2 (.inl g)
                        · exact List.mem_append.2 (.inr (by rw [← List.cons_append]; exact List.mem_append.2 (.inl g))))).more hbq fun _ _ _ => by rw [hht]; simp
                      have eb : lset (bh.map hopV) ht' (SV.agg [SV.val (.int .i64 i), SV.val (.bool b)]) = (bh.map hopV).set ht' (hopV (i, b)) := by rw [lset_eq]; rfl
                      have es : lset (seen.map bov) ht' (SV.val (.bool true)) = (seen.map bov).set ht' (bov true) := by rw [lset_eq]; rfl
                      have q1 : SV.ltL 7 ((bh.map hopV).set ht' (hopV (i, b))) = true := by rw [← List.map_set]; exact ltL_hops _ _
                      have q2 : SV.ltL 7 ((seen.map bov).set ht' (.val (.bool true))) = true := by rw [show SV.val (.bool true) = bov true from rfl, ← List.map_set]; exact ltL_bovs _ _
                      refine OpsJ.appOff (c := True) (ys := [iv ht']) 4 pre.length (td.length + 1) rfl k1 k1 k2 rfl rfl (by simp [-List.map_append, -List.map_cons]) trivial (by simp) (by simp [hC]) (by simp [-List.map_append, -List.map_cons, ub, us, usesL_map]) (by simp) (by simp) (by simp) (by simp; omega) (by simp) (by simp) ?_ ?_
                      · refine OpsJ.go ?_
                        simp [-List.map_append, -List.map_cons]
                        refine CodeJ.go ?_
                        simp (disch := omega) [-List.map_append, -List.map_cons, w64]
                        repeat (refine And.intro (by omega) ?_)
                        exact ⟨q + 1, td ++ [ht'], pre, bh.set ht' (i, b), seen.set ht' true, ⟨by omega, hb2, hp2⟩, by omega, Le.syn (by simp (disch := omega) [leS, hC, w64, eb, es, q1, q2])⟩
                      · refine OpsJ.go ?_
                        simp [-List.map_append, -List.map_cons]
                        refine CodeJ.go ?_
                        simp (disch := omega) [-List.map_append, -List.map_cons, w64]
                        repeat (refine And.intro (by omega) ?_)
                        exact ⟨q + 1, td ++ [ht'], [], bh.set ht' (i, b), seen.set ht' true, ⟨by omega, hb2, hp2⟩, by omega, Le.syn (by simp (disch := omega) [leS, hC, w64, eb, es, q1, q2])⟩
                    · refine CodeJ.go ?_
                      simp (disch := omega) [-List.map_append, -List.map_cons, lt, l0, sl]
                      repeat (refine And.intro (by omega) ?_)
                      refine callT gR [0, 1] (by simp) (by simp) (by simp) (by simp) (by simp) ?_
                      rintro T y ⟨rfl, rfl⟩
                      simp (disch := omega) [-List.map_append, -List.map_cons, lt, l0, sl]
                      repeat (refine And.intro (by omega) ?_)
                      refine callS (sgnQ (room l x (i, b))) (by simp) ?_
                      simp (disch := omega) [-List.map_append, -List.map_cons, lt, l0, sl, c3]
                      repeat (refine And.intro (by omega) ?_)
                      refine CodeJ.go ?_
                      simp (disch := omega) [-List.map_append, -List.map_cons, w64]
                      repeat (refine And.intro (by omega) ?_)
                      exact ⟨q + 1, td, pre, bh, seen, ⟨by omega, hb, hp.more hbq fun _ _ q1 => absurd q1 c3⟩, by omega, Le.syn (by simp (disch := omega) [leS, hC, w64])⟩
                · have c1' : ¬ (hf' : Int) = u := by omega
                  refine CodeJ.go ?_
                  simp (disch := omega) [-List.map_append, -List.map_cons, l0, c1', w64]
                  repeat (refine And.intro (by omega) ?_)
                  refine CodeJ.go ?_
                  simp (disch := omega) [-List.map_append, -List.map_cons, w64]
                  repeat (refine And.intro (by omega) ?_)
                  exact ⟨q + 1, td, pre, bh, seen, ⟨by omega, hb, hp.more hbq fun _ q1 _ => absurd (hhf.symm.trans q1) c1⟩, by omega, Le.syn (by simp (disch := omega) [leS, hC, w64])⟩
        · obtain rfl : i = l.length := by omega
          simp (disch := omega) [hil, -List.map_append, -List.map_cons]
          repeat (refine And.intro (by omega) ?_)
          refine ⟨dn ++ [u], td, pre ++ [u], bh, seen, hb.next hp, ?_, ?_⟩
          · have := hb.ct
            simp only [List.length_append, List.length_cons] at this ct0
            omega
          · exact Le.syn (by simp (disch := omega) [leS, hC, w64, List.append_assoc])

set_option maxRecDepth 10000 in
theorem qReach_false (n : Nat) (l : List Arc) (x : List Rat) (hn : Net n l) (hx : x.length = l.length) (s : Nat) (hs : s < n) (h1 : ∀ i, i < l.length → qok (gt l i).cap) (h2 : ∀ i, i < l.length → qok (gt x i)) {C : Ctx} (hC : C.fx = [0, 1]) :
    CodeJ Tryz.prog C (dropC 2 reachBody) (reachSt false n l x s) (retH Tryz.prog Tryz.f187.results.toList [] (effK (restT n l x) [] (ReachPhi n l x s))) := by
  have n2 := hn.n2
  have m := hn.m
  have hrr : Tryz.f187.results.toList = [.tmp 4, .tmp 5] := rfl
  rw [hrr]
  simp only [reachBody, Tryz.f187, Option.getD_some, dropC_succ, dropC_zero, reachSt, bySeen, restE, flowE, ReachPhi]
  have lr := lget_rep (x := SV.val (.bool false)) hs
  refine CodeJ.go ?_
  simp (disch := omega) [lr, rep_set]
  repeat (refine And.intro (by omega) ?_)
  refine CodeJ.loopC (ι := List Nat × List Nat × List Nat × List Hop × List Bool) (fun ⟨dn, td, pre, bh, seen⟩ => ⟨95, [(0, .ptr 0 0 0), (6, .view 3 0 n), (7, .view 2 0 n), (8, .view 4 pre.length td.length)], restE n l 1 :: flowE x :: (bySeen false bh seen ++ [some ⟨1, (pre ++ td).map nv, false⟩])⟩)
    (fun ⟨dn, td, pre, bh, seen⟩ => Bfs n l x s bh seen dn td) (fun ⟨dn, td, pre, bh, seen⟩ => td.length + falses seen) ([], [s], [], List.replicate n (0, false), (List.replicate n false).set s true) (Bfs.init hs) ?_ ?_
  · simp [leS, hC, bySeen, restE, flowE, rep_hop]
  · rintro ⟨dn, td, pre, bh, seen⟩ hb
    have hb : Bfs n l x s bh seen dn td := hb
    simp only [bySeen, restE, flowE]
    cases td with
    | nil =>
      refine CodeJ.frz 3 rfl (by simp) ?_
      refine CodeJ.frz 2 (by simp [frzS, tget]; rfl) (by simp) ?_
      refine CodeJ.go ?_
      have bl := hb.bl
      have sl := hb.sl
      have tb : (bh.map hopV).take n = bh.map hopV := List.take_of_length_le (by simp; omega)
      have ts : (seen.map bov).take n = seen.map bov := List.take_of_length_le (by simp; omega)
      simp [frzS, bl, sl, tb, ts]
      exact ⟨_, _, ⟨rfl, bh, seen, rfl, hb.done⟩, rfl, by simp [leM, restT, restE, flowE], by simp [restT], by simp [restT, restE, flowE, ltM, ltL_map]⟩
    | cons u td =>
      refine CodeJ.go ?_
      simp [-List.map_append, -List.map_cons]
      refine CodeJ.loopL (ι := Nat × List Nat × List Nat × List Hop × List Bool) (fun ⟨i, td, pre, bh, seen⟩ => ⟨95, [(0, .ptr 0 0 0), (6, .view 3 0 n), (7, .view 2 0 n), (8, .view 4 pre.length (td.length + 1)), (38, .ro (l.map arcQ)), (39, iv l.length), (40, iv i)], restE n l 1 :: flowE x :: (bySeen false bh seen ++ [some ⟨1, (pre ++ u :: td).map nv, false⟩])⟩)
        (fun ⟨i, td, pre, bh, seen⟩ => i ≤ l.length ∧ Bfs n l x s bh seen dn (u :: td) ∧ Part l x (dn ++ u :: td) u i 0) (fun ⟨i, td, pre, bh, seen⟩ => l.length - i) (0, td, pre, bh, seen) ⟨by omega, hb, Part.zero⟩ ?_ ?_
      · simp [leS, hC, bySeen, restE, flowE]
      · have ct0 := hb.ct
        clear hb
        rintro ⟨i, td, pre, bh, seen⟩ ⟨hi, hb, hp⟩
        simp only [bySeen, restE, flowE]
        by_cases hil : i < l.length
        · have la := lget_arcQ hil
          simp (disch := omega) [hil, la, -List.map_append, -List.map_cons]
          repeat (refine And.intro (by omega) ?_)
          refine CodeJ.loopC (ι := Nat × List Nat × List Nat × List Hop × List Bool) (fun ⟨q, td, pre, bh, seen⟩ => ⟨95, [(0, .ptr 0 0 0), (6, .view 3 0 n), (7, .view 2 0 n), (8, .view 4 pre.length (td.length + 1)), (9, iv i), (10, .ptr 5 0 0), (38, .ro (l.map arcQ)), (39, iv l.length), (40, iv i), (45, .view 6 0 2), (46, iv 2), (47, iv q)], restE n l 1 :: flowE x :: (bySeen false bh seen ++ [some ⟨1, (pre ++ u :: td).map nv, false⟩, some ⟨10, [arcQ (gt l i)], false⟩, some ⟨1, [bov false, bov true], false⟩])⟩)
            (fun ⟨q, td, pre, bh, seen⟩ => q ≤ 2 ∧ Bfs n l x s bh seen dn (u :: td) ∧ Part l x (dn ++ u :: td) u i q) (fun ⟨q, td, pre, bh, seen⟩ => 2 - q) (0, td, pre, bh, seen) ⟨by omega, hb, hp⟩ ?_ ?_
          · simp [leS, hC, bySeen, restE, flowE]
          · clear hb hp
            rintro ⟨q, td, pre, bh, seen⟩ ⟨hq, hb, hp⟩
            simp only [bySeen, restE, flowE]
            by_cases hq2 : q = 2
            · subst hq2
              refine CodeJ.go ?_
              simp (disch := omega) [-List.map_append, -List.map_cons, w64]
              repeat (refine And.intro (by omega) ?_)
              exact ⟨i + 1, td, pre, bh, seen, ⟨by omega, hb, hp.both⟩, by omega, Le.syn (by simp (disch := omega) [leS, hC, w64])⟩
            · have hq3 : (q : Int) < 2 := by omega
              refine CodeJ.seqI (CodeJ.go ?_)
              simp (disch := omega) [-List.map_append, -List.map_cons, hq3]
              repeat (refine And.intro (by omega) ?_)
              refine CodeJ.seqI (CodeJ.go ?_)
              simp (disch := omega) [-List.map_append, -List.map_cons, hq3]
              repeat (refine And.intro (by omega) ?_)
              refine CodeJ.seqI (CodeJ.blockI ?_)
              refine CodeJ.seqI (CodeJ.go ?_)
              obtain ⟨b, hbq⟩ : ∃ b : Bool, (if b = true then 1 else 0) = q := by
                rcases (show q = 0 ∨ q = 1 by omega) with e | e
                · exact ⟨false, by simp [e]⟩
                · exact ⟨true, by simp [e]⟩
              have lq : lget [SV.val (.bool false), SV.val (.bool true)] q = .val (.bool b) := by
                cases b <;> (simp at hbq; subst hbq; rfl)
              simp (disch := omega) [-List.map_append, -List.map_cons, lq]
              repeat (refine And.intro (by omega) ?_)
              obtain ⟨f, t, ef, et, hf, ht⟩ := hn.a i hil
              refine CodeJ.seqI ?_
              refine CodeJ.draw (.qs [0, 1, 2, 3, 4, 5] <| .nil) (by kernel_rfl) (by kernel_rfl) (by simp) ?_
              simp (disch := omega) [-List.map_append, -List.map_cons, ef, et]
              repeat (refine And.intro (by omega) ?_)
              have e1 : hfr l (i, b) = if b = true then t else f := by unfold hfr; cases b <;> simp [ef, et]
              have e2 : hto l (i, b) = if b = true then f else t := by unfold hto; cases b <;> simp [ef, et]
              refine CodeJ.seqI (CodeJ.cut (fun e st' => e = .normal ∧ leS C st' ⟨95, [(0, .ptr 0 0 0), (6, .view 3 0 n), (7, .view 2 0 n), (8, .view 4 pre.length (td.length + 1)), (9, iv i), (10, .ptr 5 0 0), (12, bov b), (13, iv (hfr l (i, b))), (14, iv (hto l (i, b))), (38, .ro (l.map arcQ)), (39, iv l.length), (40, iv i), (45, .view 6 0 2), (46, iv 2), (47, iv q)], restE n l 1 :: flowE x :: (bySeen false bh seen ++ [some ⟨1, (pre ++ u :: td).map nv, false⟩, some ⟨10, [arcQ (gt l i)], false⟩, some ⟨1, [bov false, bov true], false⟩])⟩) ?_ ?_)
              · cases b <;> (refine CodeJ.go ?_; simp [-List.map_append, -List.map_cons, leS, hC, e1, e2, bySeen, restE, flowE])
              · rintro e st' ⟨rfl, hst⟩
                refine ⟨_, hst, ?_⟩
                clear hst st'
                simp only [thn, bySeen, restE, flowE]
                have hfn : hfr l (i, b) < n := by rw [e1]; split <;> omega
                have htn : hto l (i, b) < n := by rw [e2]; split <;> omega
                have bl := hb.bl
                have sl := hb.sl
                have lt := lget_bv (l := seen) (i := hto l (i, b)) (by omega)
                have l0 : lget ((pre ++ u :: td).map nv) pre.length = iv u := gt_pre
                have lpt : pre.length < (pre ++ u :: td).length := by simp
                clear e1 e2 lq
                generalize hhf : hfr l (i, b) = hf' at *
                generalize hht : hto l (i, b) = ht' at *
                by_cases c1 : hf' = u
                · subst c1
                  cases c2 : gt seen ht' with
                  | true =>
                    rw [c2] at lt
                    refine CodeJ.go ?_
                    simp (disch := omega) [-List.map_append, -List.map_cons, lt, l0, sl]
                    repeat (refine And.intro (by omega) ?_)
                    refine CodeJ.go ?_
                    simp (disch := omega) [-List.map_append, -List.map_cons, w64]
                    repeat (refine And.intro (by omega) ?_)
                    refine ⟨q + 1, td, pre, bh, seen, ⟨by omega, hb, hp.more hbq fun _ _ _ => ?_⟩, by omega, Le.syn (by simp (disch := omega) [leS, hC, w64])⟩
                    rw [hht]; exact (hb.sn _ htn).1 c2
                  | false =>
                    rw [c2] at lt
                    have gR := qRoom_ok n l x hx i b hil (h1 i hil) (h2 i hil)
                    simp only [restT, restE, flowE] at gR
                    by_cases c3 : 0 < room l x (i, b)
                    · refine CodeJ.seqI (CodeJ.go ?_)
                      simp (disch := omega) [-List.map_append, -List.map_cons, lt, l0, sl]
                      repeat (refine And.intro (by omega) ?_)
                      refine callT gR [0, 1] (by simp) (by simp) (by simp) (by simp) (by simp) ?_
                      rintro T y ⟨rfl, rfl⟩
                      simp (disch := omega) [-List.map_append, -List.map_cons, lt, l0, sl]
                      repeat (refine And.intro (by omega) ?_)
                      refine callS (sgnQ (room l x (i, b))) (by simp) ?_
                      simp (disch := omega) [-List.map_append, -List.map_cons, lt, l0, sl, c3]
                      repeat (refine And.intro (by omega) ?_)
                      refine CodeJ.condI true (by simp) (fun _ => ?_) (fun q => by cases q)
                      refine CodeJ.seqI (CodeJ.go ?_)
                      have lb := lget_hop (l := bh) (i := ht') (by omega)
                      simp (disch := omega) [-List.map_append, -List.map_cons, lt, lb, sl, bl]
                      repeat (refine And.intro (by omega) ?_)
                      refine CodeJ.regionI ?_
                      refine OpsJ.step rfl ?_
                      simp [-List.map_append, -List.map_cons]
                      refine OpsJ.step rfl ?_
                      simp [-List.map_append, -List.map_cons]
                      refine OpsJ.step rfl ?_
                      simp [-List.map_append, -List.map_cons]
                      have k1 : tyOf Tryz.prog 30 = some ⟨.sl 3, 1, 24, [.val (.slice none 0 0)]⟩ := by simp
                      have k2 : tyOf Tryz.prog 3 = some ⟨.int .i64, 1, 8, [.val (.int .i64 0)]⟩ := by simp
                      have ub : SV.usesL 4 (lset (bh.map hopV) ht' (SV.agg [SV.val (.int .i64 i), SV.val (.bool b)])) = false := by
                        rw [lset_eq, show SV.agg [SV.val (.int .i64 i), SV.val (.bool b)] = hopV (i, b) from rfl, ← List.map_set]; exact usesL_hops _ _
                      have us : SV.usesL 4 (lset (seen.map bov) ht' (SV.val (.bool true))) = false := by
                        rw [lset_eq, show SV.val (.bool true) = bov true from rfl, ← List.map_set]; exact usesL_bovs _ _
                      have htd : td.length + 1 ≤ n := by
                        have := hb.ct
                        simp only [List.length_append, List.length_cons] at this
                        omega
                      have hb2 := hb.found (h := (i, b)) hil (by rw [hhf]; simp) c3 (by rw [hht]; exact htn) (by rw [hht]; exact c2)
                      rw [hht] at hb2
                      have hp2 : Part l x (dn ++ hf' :: (td ++ [ht'])) hf' i (q + 1) := (hp.mono (fun v hv => by
                        rcases List.mem_append.1 hv with g | g
                        · exact List.mem_append.2 (.inl g)
                        · exact List.mem_append.2 (.inr (by rw [← List.cons_append]; exact List.mem_append.2 (.inl g))))).more hbq fun _ _ _ => by rw [hht]; simp
                      have eb : lset (bh.map hopV) ht' (SV.agg [SV.val (.int .i64 i), SV.val (.bool b)]) = (bh.map hopV).set ht' (hopV (i, b)) := by rw [lset_eq]; rfl
                      have es : lset (seen.map bov) ht' (SV.val (.bool true)) = (seen.map bov).set ht' (bov true) := by rw [lset_eq]; rfl
                      have q1 : SV.ltL 7 ((bh.map hopV).set ht' (hopV (i, b))) = true := by rw [← List.map_set]; exact ltL_hops _ _
                      have q2 : SV.ltL 7 ((seen.map bov).set ht' (.val (.bool true))) = true := by rw [show SV.val (.bool true) = bov true from rfl, ← List.map_set]; exact ltL_bovs _ _
                      refine OpsJ.appOff (c := True) (ys := [iv ht']) 4 pre.length (td.length + 1) rfl k1 k1 k2 rfl rfl (by simp [-List.map_append, -List.map_cons]) trivial (by simp) (by simp [hC]) (by simp [-List.map_append, -List.map_cons, ub, us, usesL_map]) (by simp) (by simp) (by simp) (by simp; omega) (by simp) (by simp) ?_ ?_
                      · refine OpsJ.go ?_
                        simp [-List.map_append, -List.map_cons]
                        refine CodeJ.go ?_
                        simp (disch := omega) [-List.map_append, -List.map_cons, w64]
                        repeat (refine And.intro (by omega) ?_)
                        exact ⟨q + 1, td ++ [ht'], pre, bh.set ht' (i, b), seen.set ht' true, ⟨by omega, hb2, hp2⟩, by omega, Le.syn (by simp (disch := omega) [leS, hC, w64, eb, es, q1, q2])⟩
                      · refine OpsJ.go ?_
                        simp [-List.map_append, -List.map_cons]
                        refine CodeJ.go ?_
                        simp (disch := omega) [-List.map_append, -List.map_cons, w64]
                        repeat (refine And.intro (by omega) ?_)
                        exact ⟨q + 1, td ++ [ht'], [], bh.set ht' (i, b), seen.set ht' true, ⟨by omega, hb2, hp2⟩, by omega, Le.syn (by simp (disch := omega) [leS, hC, w64, eb, es, q1, q2])⟩
                    · refine CodeJ.go ?_
                      simp (disch := omega) [-List.map_append, -List.map_cons, lt, l0, sl]
                      repeat (refine And.intro (by omega) ?_)
                      refine callT gR [0, 1] (by simp) (by simp) (by simp) (by simp) (by simp) ?_
                      rintro T y ⟨rfl, rfl⟩
                      simp (disch := omega) [-List.map_append, -List.map_cons, lt, l0, sl]
                      repeat (refine And.intro (by omega) ?_)
                      refine callS (sgnQ (room l x (i, b))) (by simp) ?_
                      simp (disch := omega) [-List.map_append, -List.map_cons, lt, l0, sl, c3]
                      repeat (refine And.intro (by omega) ?_)
                      refine CodeJ.go ?_
                      simp (disch := omega) [-List.map_append, -List.map_cons, w64]
                      repeat (refine And.intro (by omega) ?_)
                      exact ⟨q + 1, td, pre, bh, seen, ⟨by omega, hb, hp.more hbq fun _ _ q1 => absurd q1 c3⟩, by omega, Le.syn (by simp (disch := omega) [leS, hC, w64])⟩
                · have c1' : ¬ (hf' : Int) = u := by omega
                  refine CodeJ.go ?_
                  simp (disch := omega) [-List.map_append, -List.map_cons, l0, c1', w64]
                  repeat (refine And.intro (by omega) ?_)
                  refine CodeJ.go ?_
                  simp (disch := omega) [-List.map_append, -List.map_cons, w64]
                  repeat (refine And.intro (by omega) ?_)
                  exact ⟨q + 1, td, pre, bh, seen, ⟨by omega, hb, hp.more hbq fun _ q1 _ => absurd (hhf.symm.trans q1) c1⟩, by omega, Le.syn (by simp (disch := omega) [leS, hC, w64])⟩
        · obtain rfl : i = l.length := by omega
          simp (disch := omega) [hil, -List.map_append, -List.map_cons]
          repeat (refine And.intro (by omega) ?_)
          refine ⟨dn ++ [u], td, pre ++ [u], bh, seen, hb.next hp, ?_, ?_⟩
          · have := hb.ct
            simp only [List.length_append, List.length_cons] at this ct0
            omega
          · exact Le.syn (by simp (disch := omega) [leS, hC, w64, List.append_assoc])

theorem qReach_ok (n : Nat) (l : List Arc) (x : List Rat) (hn : Net n l) (hx : x.length = l.length) (s : Nat) (hs : s < n) (h1 : ∀ i, i < l.length → qok (gt l i).cap) (h2 : ∀ i, i < l.length → qok (gt x i)) :
    EffC Tryz.prog 187 [.ptr 0 0 0, iv s] (restT n l x) [] (ReachPhi n l x s) := by
  refine eff_enterC Tryz.func187 rfl (by simp) (fun C hC => ?_)
  replace hC : C.fx = [0, 1] := hC
  show CodeJ _ _ reachBody _ _
  refine CodeJ.cutAt 2 (fun st => ∃ sw, st = reachSt sw n l x s) ?_ ?_
  · simp only [reachBody, Tryz.f187, Option.getD_some, takeC_succ, takeC_zero, restT, restE, flowE]
    simp
    refine CodeJ.draw (.qs [0, 1, 2, 3, 5, 6, 7, 8] <| .alt 4 [] ( .qs [10] <| .l 9 [] <| .qs [11] <| .nil ) <| .alt 9 [] ( .l 4 [] <| .qs [10, 11] <| .nil ) <| .stop) (by kernel_rfl) (by kernel_rfl) (by simp) ?_
    simp (disch := omega)
    have n2 := hn.n2
    refine ⟨⟨by omega, by omega, .inr ?_⟩, by omega, by omega, .inl ?_⟩
    · simp [leS, reachSt, bySeen, restE, flowE, hopV]
    · simp [leS, reachSt, bySeen, restE, flowE, hopV]
  · rintro st ⟨sw, rfl⟩
    cases sw
    · exact qReach_false n l x hn hx s hs h1 h2 hC
    · exact qReach_true n l x hn hx s hs h1 h2 hC
end Go.Proofs

