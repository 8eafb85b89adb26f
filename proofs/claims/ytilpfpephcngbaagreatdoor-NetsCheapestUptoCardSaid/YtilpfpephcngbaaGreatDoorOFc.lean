/- What the functions of a net's rest return that look at an arc. How far one comes in a net: what (*rest).reach returns. What pushing along a path leaves behind: (*rest).push. A text of the prover's own. -/
import Derived.Test.YtilpfpephcngbaaGreatDoorOFa
import Derived.Test.YtilpfpephcngbaaGreatDoorOVe
import Derived.Test.YtilpfpephcngbaaGreatDoorOVr
import Derived.Test.YtilpfpephcngbaaGreatDoorOVz
namespace Go.Fl
open Go Go.Sv Go.Pl Go.Proofs Go.Tb Go.Ut Go.Ne
def hopV (h : Hop) : SV := .agg [iv h.1, bov h.2]
def restE (n : Nat) (l : List Arc) (k : Nat) : Option Ent := some ⟨3, [.agg [iv n, .ro (l.map arcQ), .view k 0 l.length]], false⟩
def flowE (x : List Rat) : Option Ent := some ⟨4, x.map rsv, false⟩
def restT (n : Nat) (l : List Arc) (x : List Rat) : Tab := [restE n l 1, flowE x]
theorem lget_hop {l : List Hop} {i : Nat} (h : i < l.length) : lget (l.map hopV) i = hopV (gt l i) := lget_m _ h
@[simp] theorem renL_rsv (σ : Nat → Nat) (y : List Rat) : renL σ (y.map rsv) = y.map rsv := renL_pure σ _ (by simp)
end Go.Fl
namespace Go.Proofs
open Go.Sv Go Go.Tb Go.Pl Go.Ut Go.Ne Go.Fl
set_option maxRecDepth 10000 in
theorem qRoom_ok (n : Nat) (l : List Arc) (x : List Rat) (hx : x.length = l.length) (i : Nat) (b : Bool) (hi : i < l.length) (h1 : qok (gt l i).cap) (h2 : qok (gt x i)) :
    EffC Tryz.prog 230 [.ptr 0 0 0, iv i, bov b] (restT n l x) [] (fun T y => T = restT n l x ∧ y = rsv (room l x (i, b))) := by
  have l1 := lget_arcQ hi
  have l2 := lget_r (l := x) (i := i) (by omega)
  refine eff_enter Tryz.func230 rfl (by simp) (fun C hC => ?_)
  simp only [restT, restE, flowE]
  have ltA : SV.ltL 2 (l.map arcQ) = true := by simp [ltL_map]
  have ltR : SV.ltL 2 (x.map rsv) = true := by simp [ltL_map]
  cases b with
  | true =>
    simp (disch := omega) [l1, l2, hx]
    repeat (refine And.intro (by omega) ?_)
    exact ⟨_, _, ⟨rfl, rfl⟩, by simp [room], by simp [leM], by simp, by simp [ltM, ltL_map]⟩
  | false =>
    simp (disch := omega) [l1, l2, hx]
    repeat (refine And.intro (by omega) ?_)
    refine CodeJ.draw (.qs [0, 1, 2, 3, 4, 5, 6, 7, 8, 9, 10, 11, 12, 13, 14] <| .l 15 [] <| .l 16 [2] <| .nil) (by kernel_rfl) (by kernel_rfl) (by simp) ?_
    simp (disch := omega) [l1, l2, hx]
    repeat (refine And.intro (by omega) ?_)
    refine callS (qSub_ok _ _ h1 h2) (by simp) ?_
    simp (disch := omega) [l1, l2, hx]
    repeat (refine And.intro (by omega) ?_)
    exact ⟨_, _, ⟨rfl, rfl⟩, by simp [room], by simp [leM], by simp, by simp [ltM, ltL_map]⟩
set_option maxRecDepth 10000 in
theorem qAhead_ok (n : Nat) (l : List Arc) (x : List Rat) (hn : Net n l) (h : Hop) (hi : h.1 < l.length) :
    EffC Tryz.prog 231 [.ptr 0 0 0, hopV h] (restT n l x) [] (fun T y => T = restT n l x ∧ y = iv (hfr l h)) := by
  obtain ⟨i, b⟩ := h
  have l1 := lget_arcQ hi
  obtain ⟨f, t, ef, et, hf, ht⟩ := hn.a i hi
  refine eff_enter Tryz.func231 rfl (by simp) (fun C hC => ?_)
  simp only [restT, restE, flowE, hopV]
  cases b with
  | true =>
    simp (disch := omega) [l1]
    repeat (refine And.intro (by omega) ?_)
    refine CodeJ.draw (.qs [0, 1, 2, 3, 4, 5, 6, 7, 8, 9] <| .nil) (by kernel_rfl) (by kernel_rfl) (by simp) ?_
    simp (disch := omega) [l1, ef, et]
    repeat (refine And.intro (by omega) ?_)
    exact ⟨_, _, ⟨rfl, rfl⟩, by simp [hfr, et], by simp [leM], by simp, by simp [ltM, ltL_map]⟩
  | false =>
    simp (disch := omega) [l1]
    repeat (refine And.intro (by omega) ?_)
    refine CodeJ.draw (.qs [0, 1, 2, 3, 4, 5, 6, 7, 8, 9] <| .nil) (by kernel_rfl) (by kernel_rfl) (by simp) ?_
    simp (disch := omega) [l1, ef, et]
    repeat (refine And.intro (by omega) ?_)
    exact ⟨_, _, ⟨rfl, rfl⟩, by simp [hfr, ef], by simp [leM], by simp, by simp [ltM, ltL_map]⟩
end Go.Proofs
namespace Go.Fl
open Go Go.Sv Go.Pl Go.Proofs Go.Tb Go.Ut Go.Ne
def nv (i : Nat) : SV := iv i
@[simp] theorem nv_iv (i : Nat) : nv i = iv i := rfl
@[simp] theorem hopV_csz (h : Hop) : (hopV h).csz = 2 := rfl
@[simp] theorem hopV_isTup (h : Hop) : (hopV h).isTup = false := rfl
@[simp] theorem hopV_isAgg (h : Hop) : (hopV h).isAgg = true := rfl
@[simp] theorem hopV_one (h : Hop) : (hopV h).one = false := rfl
@[simp] theorem hopV_pure (h : Hop) : (hopV h).pure = true := rfl
@[simp] theorem hopV_lt (n : Nat) (h : Hop) : (hopV h).lt n = true := rfl
@[simp] theorem hopV_uses (n : Nat) (h : Hop) : (hopV h).uses n = false := rfl
@[simp] theorem hopV_ks (h : Hop) : (hopV h).ks = [] := rfl
theorem lget_bv {l : List Bool} {i : Nat} (h : i < l.length) : lget (l.map bov) i = bov (gt l i) := lget_m _ h
theorem rep_hop (n : Nat) : List.replicate n (SV.agg [.val (.int .i64 0), .val (.bool false)]) = (List.replicate n ((0 : Nat), false)).map hopV := by
  rw [List.map_replicate]; rfl
theorem rep_set (n s : Nat) : lset (List.replicate n (SV.val (.bool false))) s (.val (.bool true)) = ((List.replicate n false).set s true).map bov := by
  rw [lset_eq, List.map_set, List.map_replicate]; rfl
theorem lget_rep {n i : Nat} {x : SV} (h : i < n) : lget (List.replicate n x) i = x := by
  rw [lget_eq (by simpa using h)]; simp
end Go.Fl
namespace Go.Proofs
open Go.Sv Go Go.Tb Go.Pl Go.Ut Go.Ne Go.Fl
end Go.Proofs
namespace Go.Fl
open Go Go.Sv Go.Pl Go.Proofs Go.Tb Go.Ut Go.Ne
@[simp] theorem hopV_f0 (h : Hop) : lget (hopV h).cells 0 = iv h.1 := rfl
@[simp] theorem hopV_f1 (h : Hop) : lget (hopV h).cells 1 = bov h.2 := rfl
end Go.Fl
namespace Go.Proofs
open Go.Sv Go Go.Tb Go.Pl Go.Ut Go.Ne Go.Fl
set_option maxRecDepth 10000 in
theorem qPush_ok (n : Nat) (l : List Arc) (x : List Rat) (hn : Net n l) (hx : Within l x) (h1 : ∀ i, i < l.length → qok (gt l i).cap) (h2 : ∀ i, i < l.length → qok (gt x i)) (h3 : ∀ h : Hop, h.1 < l.length → qok (room l x h))
    (s t : Nat) (hs : s < n) (ht : t < n) (hst : s ≠ t) (bh : List Hop) (hbl : bh.length = n) (seen : List Bool) (rk : Nat → Nat) (hr : Rk n l x s bh seen rk) (hts : gt seen t = true) (most0 : Rat) (some0 : Bool) (hq0 : qok most0) (hp0 : some0 = true → 0 < most0) :
    EffC Tryz.prog 188 [.ptr 0 0 0, .ro (bh.map hopV), iv s, iv t, rsv most0, bov some0] (restT n l x) [] (fun T y => ∃ z m, T = restT n l z ∧ y = rsv m ∧ qok m ∧ Pushed n l x s t bh seen most0 some0 z m) := by
  have n2 := hn.n2
  have ml := hn.m
  have hxl := hx.n
  refine eff_enter Tryz.func188 rfl (by simp) (fun C hC => ?_)
  replace hC : C.fx = [0, 1] := hC
  simp only [restT, restE, flowE]
  simp
  refine CodeJ.loopL (ι := Nat × Rat × Bool) (fun ⟨k, m, b⟩ => ⟨92, [(0, .ptr 0 0 0), (1, .ro (bh.map hopV)), (2, iv s), (3, iv t), (5, bov b), (10, .ptr 2 0 0), (12, .ptr 3 0 0), (13, iv (up l bh t k))], [restE n l 1, flowE x, some ⟨4, [rsv m], false⟩, some ⟨4, [.agg [.val (.bool false), .val (.slice none 0 0), .val (.bool false), .val (.slice none 0 0)]], false⟩]⟩)
    (fun ⟨k, m, b⟩ => Low l x s t bh most0 some0 k m b ∧ qok m) (fun ⟨k, m, b⟩ => rk (up l bh t k)) (0, most0, some0) ⟨Low.init, hq0⟩ ?_ ?_
  · simp [leS, hC, up, restE, flowE]
  · rintro ⟨k, m, b⟩ ⟨hl, hm⟩
    simp only [restE, flowE]
    obtain ⟨hv, hsv⟩ := up_seen hr ht hts k hl.ns
    by_cases hvs : up l bh t k = s
    · simp [hvs]
      refine CodeJ.loopL (ι := Nat × List Rat) (fun ⟨j, y⟩ => ⟨92, [(0, .ptr 0 0 0), (1, .ro (bh.map hopV)), (2, iv s), (10, .ptr 2 0 0), (12, .ptr 3 0 0), (16, iv (up l bh t j))], [restE n l 1, flowE y, some ⟨4, [rsv m], false⟩, some ⟨4, [.agg [.val (.bool false), .val (.slice none 0 0), .val (.bool false), .val (.slice none 0 0)]], false⟩]⟩)
        (fun ⟨j, y⟩ => j ≤ k ∧ Psh n l x s t bh seen rk m j y) (fun ⟨j, y⟩ => k - j) (0, x) ⟨by omega, Psh.init hx⟩ ?_ ?_
      · simp [leS, hC, up, restE, flowE]
      · rintro ⟨j, y⟩ ⟨hj, p⟩
        simp only [restE, flowE]
        have hyl := p.w.n
        obtain ⟨hu, hsu⟩ := up_seen hr ht hts j (fun i hi => hl.ns i (by omega))
        by_cases hus : up l bh t j = s
        · simp [hus]
          exact ⟨_, _, ⟨y, rfl, m, rfl, hm, p.done hl hj hp0 hus hst⟩, by simp, by simp [leM], by simp, by simp [ltM, ltL_map]⟩
        · have hjk : j < k := by
            rcases Nat.lt_or_ge j k with e | e
            · exact e
            · have : j = k := by omega
              rw [this] at hus; exact absurd hvs hus
          have m0 := Rat.le_of_lt (hl.pos hp0 (hl.k0 (by omega)))
          have mr := hl.le j hjk
          obtain ⟨g1, g2, g3, g4, g5, g6⟩ := hr _ hu hsu hus
          have lb := lget_hop (l := bh) (i := up l bh t j) (by omega)
          have fr := p.fresh hr hu hsu hus
          have ly := lget_r (l := y) (i := (gt bh (up l bh t j)).1) (by omega)
          have gA := fun z => qAhead_ok n l z hn (gt bh (up l bh t j)) g1
          have q2 := h2 _ g1
          rw [← fr] at q2
          have st := p.step hr hu hsu hus m0 mr
          have hui : ¬ ((up l bh t j : Nat) : Int) = s := by omega
          have eu : up l bh t (j + 1) = hfr l (gt bh (up l bh t j)) := rfl
          simp only [restT, restE, flowE] at gA
          simp (disch := omega) [hus, hui, lb, hbl]
          repeat (refine And.intro (by omega) ?_)
          cases hb : (gt bh (up l bh t j)).2 with
          | true =>
            simp
            refine CodeJ.draw (.qs [0, 1, 2, 3, 4, 5, 6, 7, 8, 9, 10, 11, 12, 13, 14] <| .l 15 [] <| .qs [16] <| .l 17 [1] <| .nil) (by kernel_rfl) (by kernel_rfl) (by simp) ?_
            simp (disch := omega) [ly, hyl]
            repeat (refine And.intro (by omega) ?_)
            refine callS (qSub_ok _ _ q2 hm) (by simp) ?_
            have e : lset (y.map rsv) (gt bh (up l bh t j)).1 (rsv (gt y (gt bh (up l bh t j)).1 - m)) = (pushed y (gt bh (up l bh t j)) m).map rsv := by
              unfold pushed
              rw [lset_eq, if_pos hb, ← List.map_set]
            simp (disch := omega) [ly, hyl, e]
            repeat (refine And.intro (by omega) ?_)
            refine callT (gA (pushed y (gt bh (up l bh t j)) m)) [0, 1] (by simp) (by simp) (by simp) (by simp) (by simp) ?_
            rintro T y ⟨rfl, rfl⟩
            simp (disch := omega) [hvs]
            repeat (refine And.intro (by omega) ?_)
            exact ⟨j + 1, _, ⟨by omega, st⟩, by omega, Le.syn (by simp (disch := omega) [leS, hC, w64, eu, restE, flowE])⟩
          | false =>
            simp
            refine CodeJ.draw (.qs [0, 1, 2, 3, 4, 5, 6, 7, 8, 9, 10, 11, 12, 13, 14] <| .l 15 [] <| .qs [16] <| .l 17 [1] <| .nil) (by kernel_rfl) (by kernel_rfl) (by simp) ?_
            simp (disch := omega) [ly, hyl]
            repeat (refine And.intro (by omega) ?_)
            refine callS (qAdd_ok _ _ q2 hm) (by simp) ?_
            have e : lset (y.map rsv) (gt bh (up l bh t j)).1 (rsv (gt y (gt bh (up l bh t j)).1 + m)) = (pushed y (gt bh (up l bh t j)) m).map rsv := by
              unfold pushed
              rw [lset_eq, if_neg (by simp [hb]), ← List.map_set]
            simp (disch := omega) [ly, hyl, e]
            repeat (refine And.intro (by omega) ?_)
            refine callT (gA (pushed y (gt bh (up l bh t j)) m)) [0, 1] (by simp) (by simp) (by simp) (by simp) (by simp) ?_
            rintro T y ⟨rfl, rfl⟩
            simp (disch := omega) [hvs]
            repeat (refine And.intro (by omega) ?_)
            exact ⟨j + 1, _, ⟨by omega, st⟩, by omega, Le.syn (by simp (disch := omega) [leS, hC, w64, eu, restE, flowE])⟩
    · obtain ⟨g1, g2, g3, g4, g5, g6⟩ := hr _ hv hsv hvs
      have lb := lget_hop (l := bh) (i := up l bh t k) (by omega)
      have gR := qRoom_ok n l x hxl (gt bh (up l bh t k)).1 (gt bh (up l bh t k)).2 g1 (h1 _ g1) (h2 _ g1)
      have gA := qAhead_ok n l x hn (gt bh (up l bh t k)) g1
      have q3 := h3 _ g1
      have nw := hl.new hvs g1 g2
      have od := fun e : b = true => Low.old (e ▸ hl) hvs
      have hvi : ¬ ((up l bh t k : Nat) : Int) = s := by omega
      have eu : up l bh t (k + 1) = hfr l (gt bh (up l bh t k)) := rfl
      simp only [restT, restE, flowE] at gR gA
      simp (disch := omega) [hvs, hvi, lb, hbl]
      repeat (refine And.intro (by omega) ?_)
      refine callT gR [0, 1] (by simp) (by simp) (by simp) (by simp) (by simp) ?_
      rintro T y ⟨rfl, rfl⟩
      simp
      cases b with
      | false =>
        have w1 := nw (.inl rfl)
        simp (disch := omega) [hvs]
        repeat (refine And.intro (by omega) ?_)
        refine callT gA [0, 1] (by simp) (by simp) (by simp) (by simp) (by simp) ?_
        rintro T y ⟨rfl, rfl⟩
        simp (disch := omega) [hvs]
        repeat (refine And.intro (by omega) ?_)
        exact ⟨k + 1, _, .inr ⟨⟨w1, q3⟩, by rw [eu]; exact g6, Le.syn (by simp (disch := omega) [leS, hC, w64, eu, restE, flowE])⟩⟩
      | true =>
        simp (disch := omega) [hvs]
        repeat (refine And.intro (by omega) ?_)
        refine callS (cmpQ _ _ q3 hm) (by simp) ?_
        simp
        repeat (refine And.intro (by omega) ?_)
        refine ⟨fun hc => ?_, fun hc => ?_⟩
        · have w1 := nw (.inr (by simpa using hc))
          refine callT gA [0, 1] (by simp) (by simp) (by simp) (by simp) (by simp) ?_
          rintro T y ⟨rfl, rfl⟩
          simp (disch := omega) [hvs]
          repeat (refine And.intro (by omega) ?_)
          exact ⟨k + 1, _, .inr ⟨⟨w1, q3⟩, by rw [eu]; exact g6, Le.syn (by simp (disch := omega) [leS, hC, w64, eu, restE, flowE])⟩⟩
        · have w1 := od rfl (by simpa using hc)
          refine callT gA [0, 1] (by simp) (by simp) (by simp) (by simp) (by simp) ?_
          rintro T y ⟨rfl, rfl⟩
          simp (disch := omega) [hvs]
          repeat (refine And.intro (by omega) ?_)
          exact ⟨k + 1, m, .inr ⟨⟨w1, hm⟩, by rw [eu]; exact g6, Le.syn (by simp (disch := omega) [leS, hC, w64, eu, restE, flowE])⟩⟩
end Go.Proofs

