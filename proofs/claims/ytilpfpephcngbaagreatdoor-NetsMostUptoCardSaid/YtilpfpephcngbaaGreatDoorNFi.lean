/- What nets.Most returns: a flow, and a cut of just its size. What the law NetsMost returns. A text of the prover's own. -/
import Derived.Test.YtilpfpephcngbaaGreatDoorNFe
import Derived.Test.YtilpfpephcngbaaGreatDoorNBb
import Derived.Test.YtilpfpephcngbaaGreatDoorNBd
import Derived.Test.YtilpfpephcngbaaGreatDoorNFg
import Derived.Test.YtilpfpephcngbaaGreatDoorNBe
namespace Go.Sv
open Go
/-- four results -/
@[simp] theorem retQ_ret4 (P : Program) (st : St) (r s u v : ResultVar) (Φ : SV → Prop) : retQ P [r, s, u, v] Φ .ret st = finL [retK P st r, retK P st s, retK P st u, retK P st v] [] st.M Φ := by
  simp only [retQ, retSV, retL, retOne_K]; cases retK P st r <;> cases retK P st s <;> cases retK P st u <;> cases retK P st v <;> simp [finL, fin, and_assoc]
end Go.Sv
namespace Go.Fl
open Go Go.Sv Go.Pl Go.Proofs Go.Tb Go.Ut Go.Ne
theorem nlL_rsvs (x : List Rat) : nlL (x.map rsv) = x.map rsv := by
  induction x with
  | nil => rfl
  | cons q x ih => rw [List.map_cons]; simp [nlV_rsv, ih]
structure MostOK (n : Nat) (l : List Arc) (s t : Nat) (x : List Rat) (seen : List Bool) (sum : Rat) : Prop where
  f : Flow l s t x sum
  sl : seen.length = n
  s1 : gt seen s = true
  t0 : gt seen t = false
  c : thr l seen l.length = sum
end Go.Fl
namespace Go.Proofs
open Go.Sv Go Go.Tb Go.Pl Go.Ut Go.Ne Go.Fl
set_option maxRecDepth 10000 in
theorem qMostE_ok (n : Int) (l : List Arc) (hl : l.length ≤ 1048576) (s t : Int) (h : netC n l ≠ 0) : PureF Tryz.prog 126 [iv n, .ro (l.map arcQ), iv s, iv t] (.tup [.ro [], .ro [], rsv 0, erV (netC n l)]) := by
  have g := qNetValid_ok n l hl
  refine pure_enter Tryz.func126 rfl (by simp) (fun C hC => ?_)
  simp
  refine callS (g) (by simp) ?_
  rcases netC_le n l with e | e | e
  · exact absurd e h
  · rw [e, erV_2]; simp
    refine CodeJ.draw (.qs [0, 1, 2, 3] <| .l 4 [0] <| .qs [5] <| .nil) (by kernel_rfl) (by kernel_rfl) (by simp) ?_
    simp
    rw [← rsv0]; simp
  · rw [e, erV_4]; simp
    refine CodeJ.draw (.qs [0, 1, 2, 3] <| .l 4 [0] <| .qs [5] <| .nil) (by kernel_rfl) (by kernel_rfl) (by simp) ?_
    simp
    rw [← rsv0]; simp
set_option maxRecDepth 10000 in
theorem qMostS_ok (n : Int) (l : List Arc) (hl : l.length ≤ 1048576) (s t : Int) (h : netC n l = 0) (hst : s < 0 ∨ n ≤ s ∨ t < 0 ∨ n ≤ t ∨ s = t) : PureF Tryz.prog 126 [iv n, .ro (l.map arcQ), iv s, iv t] (.tup [.ro [], .ro [], rsv 0, erV 4]) := by
  have g := qNetValid_ok n l hl
  rw [h, erV_0] at g
  refine pure_enter Tryz.func126 rfl (by simp) (fun C hC => ?_)
  simp
  refine callS (g) (by simp) ?_
  rw [erV_4]
  simp
  repeat' (apply And.intro <;> intro _)
  all_goals first
    | (exfalso; omega)
    | (refine CodeJ.draw (.qs [0] <| .q 1 [0] <| .qs [2, 3] <| .l 4 [0] <| .qs [5] <| .nil) (by kernel_rfl) (by kernel_rfl) (by simp) ?_; simp; rw [← rsv0]; simp; done)
set_option maxRecDepth 10000 in
theorem qMost_ok (n : Nat) (l : List Arc) (hc : netC n l = 0) (hw : ArcW l) (s t : Nat) (hs : s < n) (ht : t < n) (hst : s ≠ t) :
    PureC Tryz.prog 126 [iv n, .ro (l.map arcQ), iv s, iv t] (fun y => ∃ x seen sum, y = .tup [.ro (x.map rsv), .ro (seen.map bov), rsv sum, .val .nilIface] ∧ MostOK n l s t x seen sum) := by
  have hl := hw.n
  have g := qNetValid_ok n l hl
  rw [hc, erV_0] at g
  have hn : Net n l := by obtain ⟨m, e, h⟩ := net_of hc; obtain rfl : m = n := by omega
                          exact h
  have n2 := hn.n2
  have m := hn.m
  refine pure_enterW Tryz.func126 rfl (by simp) (fun C hC => ?_)
  simp
  refine callS (g) (by simp) ?_
  have c1 : ¬ (n : Int) ≤ s := by omega
  have c2 : ¬ (n : Int) ≤ t := by omega
  have c3 : ¬ (s : Int) = t := by omega
  simp (disch := omega) [c1, c2, c3]
  repeat (refine And.intro (by omega) ?_)
  refine ⟨⟨⟨by omega, ?_⟩, fun _ => by omega⟩, fun _ => by omega⟩
  refine CodeJ.le (Le.nl _) ?_
  simp [nlS, nlL_rep]
  refine CodeJ.go ?_
  simp
  refine CodeJ.loopL (ι := List Rat × Rat) (fun ⟨x, sum⟩ => ⟨79, [(2, iv s), (3, iv t), (10, .ptr 0 0 0), (12, .ptr 1 0 0), (14, .ptr 3 0 0)], [some ⟨4, [rsv 0], false⟩, some ⟨4, [rsv sum], false⟩, flowE x, restE n l 2]⟩)
    (fun ⟨x, sum⟩ => Flow l s t x sum) (fun ⟨x, sum⟩ => moreF l sum) (List.replicate l.length 0, 0) (Flow.init (net_cap hc)) ?_ ?_
  · simp [leS, hC, rsv0, flowE, restE]
  · rintro ⟨x, sum⟩ f
    simp only [flowE, restE]
    have hxl := f.w.n
    have wx := fun i hi => f.qx m hw i hi
    have ws := f.qs m hw
    have cq : ∀ i, i < l.length → qok (gt l i).cap := fun i hi => qok_of (hw.cap i hi) (by omega)
    have xq : ∀ i, i < l.length → qok (gt x i) := fun i hi => qok_of (wx i hi) (by omega)
    have gR := qReach_ok n l x hn hxl s hs cq xq
    simp only [restT, restE, flowE, ReachPhi] at gR
    simp
    refine callT gR [3, 2] (by simp) (by simp) (by simp) (by simp) (by simp) ?_
    rintro T y ⟨rfl, bh, seen, rfl, r⟩
    have sl := r.sl
    have lt := lget_bov (l := seen) (i := t) (by omega)
    simp [restT, restE, flowE]
    cases c2 : gt seen t with
    | false =>
      rw [c2] at lt
      simp (disch := omega) [lt, sl]
      repeat (refine And.intro (by omega) ?_)
      refine CodeJ.draw (.qs [0, 1, 2, 3, 4, 5, 6, 7] <| .l 8 [0] <| .qs [9] <| .nil) (by kernel_rfl) (by kernel_rfl) (by simp) ?_
      simp (disch := omega) [hxl]
      repeat (refine And.intro (by omega) ?_)
      refine ⟨_, (Le.frz 2 rfl (by simp)).trans (Le.refl _ _), ?_⟩
      have tx : (x.map rsv).take l.length = x.map rsv := List.take_of_length_le (by simp; omega)
      simp [frzS, hxl, tx]
      exact ⟨_, Sub_self _ _ (by simp), x, seen, sum, rfl, f, sl, r.s0, c2, cut_ok hn hs f r c2⟩
    | true =>
      rw [c2] at lt
      simp (disch := omega) [lt, sl]
      repeat (refine And.intro (by omega) ?_)
      obtain ⟨rk, hrk⟩ := r.rk
      have gP := qPush_ok n l x hn f.w cq xq (fun h hh => qok_room hw (fun i hi => qw_mono (wx i hi) (by omega)) h hh) s t hs ht hst bh r.bl seen rk hrk c2 0 false (qok_of (qw_zero (k := 1) (by omega)) (by omega)) (by simp)
      simp only [restT, restE, flowE] at gP
      refine CodeJ.draw (.q 0 [2, 3] <| .qs [1, 2, 3, 4, 5] <| .l 6 [2, 3] <| .l 7 [] <| .l 8 [1] <| .nil) (by kernel_rfl) (by kernel_rfl) (by simp) ?_
      simp
      refine callNl ?_
      simp [nlV_rsv, nlL_rsvs, rsv0]
      refine callT gP [3, 2] (by simp) (by simp) (by simp) (by simp) (by simp) ?_
      rintro T y ⟨z, q, rfl, rfl, hq, p⟩
      have f2 := f.step hst p
      simp
      refine callS (qAdd_ok _ _ (qok_of ws (by omega)) hq) (by simp) ?_
      simp
      exact ⟨z, sum + q, f2, more_lt f f2 p.pos, Le.syn (by simp (disch := omega) [leS, hC, w64, flowE, restE])⟩
end Go.Proofs
namespace Go.Fl
open Go Go.Sv Go.Pl Go.Proofs Go.Tb Go.Ut Go.Ne
theorem qtxt_0 : qtxt 0 = ⟨#[48]⟩ := by decide +kernel
theorem MostOK.qx {n : Nat} {l : List Arc} {s t : Nat} {x : List Rat} {seen : List Bool} {sum : Rat} (h : MostOK n l s t x seen sum) (hl : l.length ≤ 300) (hw : ArcW l) : Wd 700000 x := fun i hi => h.f.qx hl hw i (by have := h.f.w.n; omega)
theorem okl_of {k : Nat} {x : List Rat} (h : Wd k x) (hk : k ≤ 10000000000) (hl : x.length ≤ 1048576) : OKl x := ⟨hl, fun q hq => by
  obtain ⟨i, hi, rfl⟩ := List.getElem_of_mem hq
  rw [gt_get hi]; exact qok_of (h i hi) hk⟩
end Go.Fl
namespace Go.Proofs
open Go.Sv Go Go.Tb Go.Pl Go.Ut Go.Ne Go.Fl
noncomputable def flowsBody : Code := Tryz.f53.body.getD .skip
def midSt (a s t : Int) (r fl sd er : SV) (e : Int) (sum : Rat) : St := ⟨130, [(0, iv a), (2, iv s), (3, iv t), (9, r), (14, fl), (15, sd), (16, .ptr 0 0 0), (17, er), (18, iv e)], [some ⟨4, [rsv sum], false⟩]⟩
def flowsI (l : List Arc) (st : St) : Prop :=
  (∃ c a s t r, 0 < c ∧ c ≤ 10 ∧ st = midSt a s t r (.ro []) (.ro []) (erV c) (c : Nat) 0) ∨ (∃ a s t r, (s < 0 ∨ a ≤ s ∨ t < 0 ∨ a ≤ t ∨ s = t) ∧ st = midSt a s t r (.ro []) (.ro []) (erV 4) 0 0) ∨
  (∃ (n s t : Nat) (x : List Rat) (seen : List Bool) (sum : Rat), netC (n : Nat) l = 0 ∧ s < n ∧ t < n ∧ s ≠ t ∧ MostOK n l s t x seen sum ∧ st = midSt n s t (.ro (l.map arcP)) (.ro (x.map rsv)) (.ro (seen.map bov)) (.val .nilIface) 0 sum)
abbrev flowsQ : Post := retQ Tryz.prog Tryz.f53.results.toList (fun x => x = .val (.bool true))
set_option maxRecDepth 10000 in
theorem flowsErr_ok (c : Nat) (a s t : Int) (r : SV) (h0 : 0 < c) (h1 : c ≤ 10) {C : Ctx} (hX : C.X = []) (hE : EOK C.w0) :
    CodeJ Tryz.prog C (dropC 8 flowsBody) (midSt a s t r (.ro []) (.ro []) (erV c) (c : Nat) 0) flowsQ := by
  have hrr : Tryz.f53.results.toList = [.tmp 8] := rfl
  rw [flowsQ, hrr]
  simp only [flowsBody, Tryz.f53, Option.getD_some, dropC_succ, dropC_zero, midSt]
  refine CodeJ.go ?_
  have hpos : (0 : Int) < (c : Nat) := by omega
  simp [hpos, h0]
  refine callE (coded3_ok h0 h1 c) hE hX (by simp) (fun x hx => ?_)
  subst hx
  simp
  refine callS (qText_ok 0 (qok_of (qw_zero (k := 1) (by omega)) (by omega))) (by simp) ?_
  simp [qtxt_0]
set_option maxRecDepth 10000 in
theorem flowsBad_ok (c : Nat) (a s t : Int) (r : SV) (h0 : 0 < c) (h1 : c ≤ 10) {C : Ctx} (hX : C.X = []) (hE : EOK C.w0) :
    CodeJ Tryz.prog C (dropC 7 flowsBody) (midSt a s t r (.ro []) (.ro []) (erV c) (c : Nat) 0) flowsQ := by
  have go := flowsErr_ok c a s t r h0 h1 hX hE
  simp only [flowsBody, Tryz.f53, Option.getD_some, dropC_succ, dropC_zero] at go ⊢
  have hc : ¬ ((c : Nat) : Int) = 0 := by omega
  have hc' : ¬ c = 0 := by omega
  simp only [midSt] at go ⊢
  refine CodeJ.seqI (CodeJ.seqI (CodeJ.regionI (OpsJ.go ?_)))
  simp [hc, hc']
  refine CodeJ.condI false (by simp) (fun q => by cases q) (fun _ => CodeJ.go ?_)
  simp
  exact CodeJ.le (Le.syn (by simp [leS])) go
set_option maxRecDepth 10000 in
theorem flowsFour_ok (a s t : Int) (r : SV) (hst : s < 0 ∨ a ≤ s ∨ t < 0 ∨ a ≤ t ∨ s = t) {C : Ctx} (hX : C.X = []) (hE : EOK C.w0) :
    CodeJ Tryz.prog C (dropC 7 flowsBody) (midSt a s t r (.ro []) (.ro []) (erV 4) 0 0) flowsQ := by
  have go := flowsErr_ok 4 a s t r (by omega) (by omega) hX hE
  simp only [flowsBody, Tryz.f53, Option.getD_some, dropC_succ, dropC_zero] at go ⊢
  simp only [midSt] at go ⊢
  refine CodeJ.seqI (CodeJ.seqI (CodeJ.regionI (OpsJ.go ?_)))
  by_cases a1 : s < 0
  · simp [a1]
    refine CodeJ.condI true (by simp) (fun _ => CodeJ.go ?_) (fun q => by cases q)
    simp
    exact CodeJ.le (Le.syn (by simp [leS])) go
  · have b1 : 0 ≤ s := by omega
    by_cases a2 : a ≤ s
    · simp [a1, b1, a2]
      refine CodeJ.condI true (by simp) (fun _ => CodeJ.go ?_) (fun q => by cases q)
      simp
      exact CodeJ.le (Le.syn (by simp [leS])) go
    · have b2 : s < a := by omega
      by_cases a3 : t < 0
      · simp [a1, b1, a2, b2, a3]
        refine CodeJ.condI true (by simp) (fun _ => CodeJ.go ?_) (fun q => by cases q)
        simp
        exact CodeJ.le (Le.syn (by simp [leS])) go
      · have b3 : 0 ≤ t := by omega
        by_cases a4 : a ≤ t
        · simp [a1, b1, a2, b2, a3, b3, a4]
          refine CodeJ.condI true (by simp) (fun _ => CodeJ.go ?_) (fun q => by cases q)
          simp
          exact CodeJ.le (Le.syn (by simp [leS])) go
        · have b4 : t < a := by omega
          obtain rfl : s = t := by omega
          simp [a1, b1, a2, b2]
          refine CodeJ.condI true (by simp) (fun _ => CodeJ.go ?_) (fun q => by cases q)
          simp
          exact CodeJ.le (Le.syn (by simp [leS])) go
set_option maxRecDepth 10000 in
theorem flowsGood_ok (n : Nat) (l : List Arc) (s t : Nat) (x : List Rat) (seen : List Bool) (sum : Rat) (hc : netC n l = 0) (hw : ArcW l) (hs : s < n) (ht : t < n) (hst : s ≠ t) (ok : MostOK n l s t x seen sum) {C : Ctx} :
    CodeJ Tryz.prog C (dropC 7 flowsBody) (midSt n s t (.ro (l.map arcP)) (.ro (x.map rsv)) (.ro (seen.map bov)) (.val .nilIface) 0 sum) flowsQ := by
  have hn : Net n l := by obtain ⟨m, e, h⟩ := net_of hc; obtain rfl : m = n := by omega
                          exact h
  have m := hn.m
  have wx := ok.qx m hw
  have ws := ok.f.qs m hw
  have hxl := ok.f.w.n
  have hrr : Tryz.f53.results.toList = [.tmp 8] := rfl
  rw [flowsQ, hrr]
  have c1 : ¬ (n : Int) ≤ s := by omega
  have c2 : ¬ (n : Int) ≤ t := by omega
  have c3 : ¬ (s : Int) = t := by omega
  have c4 : ¬ (s : Int) < 0 := by omega
  have c5 : ¬ (t : Int) < 0 := by omega
  simp only [flowsBody, Tryz.f53, Option.getD_some, dropC_succ, dropC_zero, midSt]
  refine CodeJ.seqI (CodeJ.seqI (CodeJ.regionI (OpsJ.go ?_)))
  simp [c1, c2, c3, c4, c5]
  refine CodeJ.condI false (by simp) (fun q => by cases q) (fun _ => CodeJ.go ?_)
  simp
  refine CodeJ.go ?_
  simp
  refine callS (pTexts_ok x (okl_of wx (by omega) (by omega))) (by simp) ?_
  simp
  refine callS (rSaidT_ok x (by omega) (fun i hi => qw_mono (wx i hi) (by omega))) (by simp) ?_
  simp
  refine callS (qText_ok sum (qok_of ws (by omega))) (by simp) ?_
  simp
  refine callS (rSaidB_ok sum (qw_mono ws (by omega))) (by simp) ?_
  simp [fsv]
  refine callS (rMost_ok n l hn hw s t hs ht x wx seen ok.sl ok.s1 ok.t0 sum ws ok.f ok.c) (by simp) ?_
  simp
set_option maxRecDepth 10000 in
theorem flows_ok (nodes : Int) (l : List ArcS) (s t : Int) (h : SmA l) : PureE Tryz.prog 53 [iv nodes, .ro (l.map arcS), iv s, iv t] (fun x => x = .val (.bool true)) := by
  have g1 := rArcs_ok l h
  have hw : ArcW (arcs l) := arcW l h.n
  refine pureE_enter Tryz.func53 rfl (by simp) (fun C hC hX hE => ?_)
  show CodeJ _ _ flowsBody _ _
  refine CodeJ.cutAt 7 (flowsI (arcs l)) ?_ ?_
  · simp only [flowsBody, Tryz.f53, Option.getD_some, takeC_succ, takeC_zero]
    simp
    refine callS (g1) (by simp) ?_
    simp
    refine callP (shortArcs_ok l h) (by simp) ?_
    rintro x ⟨b, rfl, f1⟩
    cases o1 : okA l with
    | false => simp
    | true =>
    cases b with
    | false => simp
    | true =>
    have t1 := pArcs_ok l h
    rw [arcsQ, if_pos o1, o1] at t1
    have hl : (arcs l).length ≤ 1048576 := hw.n
    have t6 := rNetValid_ok nodes (arcs l) hl
    simp
    refine callS (t1) (by simp) ?_
    simp [arcsP, o1]
    by_cases hc : netC nodes (arcs l) = 0
    · obtain ⟨n, rfl, hn⟩ := net_of hc
      rw [hc] at t6
      by_cases hst : s < 0 ∨ n ≤ s ∨ t < 0 ∨ n ≤ t ∨ s = t
      · refine callS (qMostS_ok n (arcs l) hl s t hc hst) (by simp) ?_
        simp
        refine callS (t6) (by simp) ?_
        simp
        exact ⟨_, .inr (.inl ⟨n, s, t, .ro ((arcs l).map arcP), hst, rfl⟩), by simp [leS, midSt, hC]⟩
      · obtain ⟨s', rfl⟩ : ∃ k : Nat, s = k := ⟨s.toNat, by omega⟩
        obtain ⟨t', rfl⟩ : ∃ k : Nat, t = k := ⟨t.toNat, by omega⟩
        refine callP (qMost_ok n (arcs l) hc hw s' t' (by omega) (by omega) (by omega)) (by simp) ?_
        rintro y ⟨x, seen, sum, rfl, ok⟩
        simp
        refine callS (t6) (by simp) ?_
        simp
        exact ⟨_, .inr (.inr ⟨n, s', t', x, seen, sum, hc, by omega, by omega, by omega, ok, rfl⟩), by simp [leS, midSt, hC]⟩
    · refine callS (qMostE_ok nodes (arcs l) hl s t hc) (by simp) ?_
      simp
      refine callS (t6) (by simp) ?_
      simp
      exact ⟨_, .inl ⟨netC nodes (arcs l), nodes, s, t, .ro ((arcs l).map arcP), by omega, by rcases netC_le nodes (arcs l) with e | e | e <;> omega, rfl⟩, by simp [leS, midSt, hC]⟩
  · rintro st (⟨c, a, s, t, r, h0, h1, rfl⟩ | ⟨a, s, t, r, h0, rfl⟩ | ⟨n, s, t, x, seen, sum, hc, hs, ht, hst, ok, rfl⟩)
    · exact flowsBad_ok c a s t r h0 h1 hX hE
    · exact flowsFour_ok a s t r h0 hX hE
    · exact flowsGood_ok n (arcs l) s t x seen sum hc hw hs ht hst ok
set_option maxRecDepth 10000 in
theorem netsMost_ok (nodes : Int) (l : List ArcS) (s t : Int) (h : SmA l) : PureE Tryz.prog 8 [iv nodes, .ro (l.map arcS), iv s, iv t] (fun x => x = .val (.bool true)) := by
  refine pureE_enter Tryz.func8 rfl (by simp) (fun C hC hX hE => ?_)
  refine CodeJ.go ?_
  simp
  refine callS (gLone) (by simp) ?_
  simp
  refine callE (flows_ok 2 loneS 0 1 lone_sm) hE hX (by simp) (fun x hx => ?_)
  subst hx
  simp
  refine callE (flows_ok nodes l s t h) hE hX (by simp) (fun x hx => ?_)
  subst hx
  simp
end Go.Proofs

