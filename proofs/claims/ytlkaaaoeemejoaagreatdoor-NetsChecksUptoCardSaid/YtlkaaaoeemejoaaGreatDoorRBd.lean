/- What the law NetsChecks returns. A text of the prover's own. -/
import Derived.Test.YtlkaaaoeemejoaaGreatDoorRBb
import Derived.Test.YtlkaaaoeemejoaaGreatDoorRBc
import Derived.Test.YtlkaaaoeemejoaaGreatDoorRMt
namespace Go.Sv
open Go
/-- nil slices are read as slices of nothing in a call -/
theorem callNl {P : Program} {C : Ctx} {f : FuncId} {args : List SV} {M : Tab} {W : Option (List Nat)} {K : Tab → List Nat → SV → Prop} (h : CallJ P C f (nlL args) (nlM M) W K) : CallJ P C f args M W K :=
  fun β H w vals hd hW => h β H w vals (nlL_denT hd) hW.nl
end Go.Sv
namespace Go.Ne
open Go Go.Sv Go.Pl Go.Proofs Go.Tb Go.Ut
structure NWay where
  none : Bool
  flow : List ByteArray
  prices : List ByteArray
  side : List Bool
  cost : ByteArray
def wayV (w : NWay) : SV := .agg ([bov w.none, .ro (w.flow.map strv), .ro (w.prices.map strv), .ro (w.side.map bov), strv w.cost])
@[simp] theorem wayV_csz (w : NWay) : (wayV w).csz = 5 := rfl
@[simp] theorem wayV_isTup (w : NWay) : (wayV w).isTup = false := rfl
@[simp] theorem wayV_isAgg (w : NWay) : (wayV w).isAgg = true := rfl
@[simp] theorem wayV_one (w : NWay) : (wayV w).one = false := rfl
@[simp] theorem wayV_pure (w : NWay) : (wayV w).pure = true := rfl
@[simp] theorem wayV_lt (n : Nat) (w : NWay) : (wayV w).lt n = true := rfl
@[simp] theorem wayV_uses (n : Nat) (w : NWay) : (wayV w).uses n = false := rfl
@[simp] theorem wayV_ks (w : NWay) : (wayV w).ks = [] := rfl
@[simp] theorem wayV_f0 (w : NWay) : lget (wayV w).cells 0 = bov w.none := rfl
@[simp] theorem wayV_f1 (w : NWay) : lget (wayV w).cells 1 = .ro (w.flow.map strv) := rfl
@[simp] theorem wayV_f2 (w : NWay) : lget (wayV w).cells 2 = .ro (w.prices.map strv) := rfl
@[simp] theorem wayV_f3 (w : NWay) : lget (wayV w).cells 3 = .ro (w.side.map bov) := rfl
@[simp] theorem wayV_f4 (w : NWay) : lget (wayV w).cells 4 = strv w.cost := rfl
structure SmW (w : NWay) : Prop where
  f : SmN w.flow
  p : SmN w.prices
  s : w.side.length ≤ 1048576
  c : w.cost.size ≤ 1048576
def s0 : ByteArray := ⟨#[48]⟩
def s1 : ByteArray := ⟨#[49]⟩
def s2 : ByteArray := ⟨#[50]⟩
def s3 : ByteArray := ⟨#[51]⟩
def s4 : ByteArray := ⟨#[52]⟩
def s6 : ByteArray := ⟨#[54]⟩
def sm3 : ByteArray := ⟨#[45, 51]⟩
def loneS : List ArcS := [⟨0, 1, s2, s1⟩, ⟨0, 1, s3, s4⟩]
def loneA : List Arc := [⟨0, 1, 2, 1⟩, ⟨0, 1, 3, 4⟩]
theorem n0 : num s0 = 0 := by decide +kernel
theorem n1 : num s1 = 1 := by decide +kernel
theorem n2 : num s2 = 2 := by decide +kernel
theorem n3 : num s3 = 3 := by decide +kernel
theorem n4 : num s4 = 4 := by decide +kernel
theorem n6 : num s6 = 6 := by decide +kernel
theorem nm3 : num sm3 = -3 := by decide +kernel
theorem lone_ok : okA loneS = true := by kernel_rfl
theorem lone_arcs : arcs loneS = loneA := by simp [arcs, loneS, loneA, arcOf, n1, n2, n3, n4]
theorem lone_sm : SmA loneS := ⟨by decide, fun i hi => by
  match i, hi with
  | 0, _ => decide
  | 1, _ => decide, fun i hi => by
  match i, hi with
  | 0, _ => decide
  | 1, _ => decide⟩
def toyShip : Ship := ⟨false, [2, 1], [0, 4], [], 6⟩
theorem toy_net : netC 2 loneA = 0 := by decide +kernel
theorem toy_w : ArcW loneA := by rw [← lone_arcs]; exact arcW _ (by decide)
theorem toy_ok : shipB 2 loneA [3, -3] toyShip = true := yesF rfl {
  w := ⟨rfl, fun i hi => by
    match i, hi with
    | 0, _ => decide +kernel
    | 1, _ => decide +kernel⟩
  pr := rfl
  d := fun v hv => by
    match v, hv with
    | 0, _ => decide +kernel
    | 1, _ => decide +kernel
  s := fun i hi => by
    match i, hi with
    | 0, _ => unfold slack; decide +kernel
    | 1, _ => unfold slack; decide +kernel
  c := by decide +kernel }
theorem nlL_rc (q : Rat) : nlL (rsv q).cells = (rsv q).cells := rfl
theorem nlV_rsv (q : Rat) : nlV (rsv q) = rsv q := rfl
theorem nlV_wayV (w : NWay) : nlV (wayV w) = wayV w := rfl
theorem wd2 {a b : ByteArray} {x y : Rat} (ha : num a = x) (hb : num b = y) : Wd 2200 [x, y] := by
  have := wd_nums [a, b]
  rwa [show nums [a, b] = [x, y] by simp [nums, ha, hb]] at this
theorem toy_sw : ShipW toyShip := ⟨by decide, by decide, by decide, wd2 n2 n1, wd2 n0 n4, by show qw 2200 6; rw [← n6]; exact qw_qrd _⟩
theorem sm2 {a b : ByteArray} (ha : a.size ≤ 1048576) (hb : b.size ≤ 1048576) : SmN [a, b] := ⟨by simp, fun x hx => by
  simp only [List.mem_cons, List.not_mem_nil, or_false] at hx
  rcases hx with rfl | rfl <;> assumption⟩
end Go.Ne
namespace Go.Proofs
open Go.Sv Go Go.Tb Go.Pl Go.Ut Go.Ne
theorem gNums {a b : ByteArray} {x y : Rat} (ha : a.size ≤ 1048576) (hb : b.size ≤ 1048576) (hx : num a = x) (hy : num b = y) (ho : okN [a, b] = true) : PureF Tryz.prog 10 [.ro [.val (.string a), .val (.string b)]] (.tup [.ro [rsv x, rsv y], .val (.bool true)]) := by
  have := pNumbers_ok [a, b] (sm2 ha hb)
  rw [show numsQ [a, b] = .tup [.ro [rsv x, rsv y], .val (.bool true)] by rw [numsQ, ho, if_pos rfl]; simp [nums, hx, hy]] at this
  exact this
theorem gLone : PureF Tryz.prog 30 [] (.ro (loneS.map arcS)) := by
  refine pure_enter Tryz.func30 rfl (by simp) (fun C hC => ?_)
  simp [loneS, Ne.arcS, s1, s2, s3, s4]
theorem gArcs : PureF Tryz.prog 29 [.ro (loneS.map arcS)] (.tup [.ro (loneA.map arcQ), .val (.bool true)]) := by
  have := pArcs_ok loneS lone_sm
  rwa [arcsQ, lone_ok, if_pos rfl, lone_arcs] at this
theorem gNum6 : PureF Tryz.prog 11 [.val (.string s6)] (.tup [rsv 6, .val (.bool true)]) := by
  have := pNumber_ok s6 (by decide)
  rw [n6, show decide ((qrd 300 s6).2.1 = 0) = true by decide +kernel] at this
  exact this
theorem gToyN : PureF Tryz.prog 31 [.val (.int .i64 2), .ro (loneA.map arcQ), .ro [rsv 3, rsv (-3)], .rop (shipQ toyShip) 0] (.tup [.val (.bool true), .val .nilIface]) := by
  have := qCheck_ok 2 loneA toy_net toy_w [3, -3] (wd2 n3 nm3) rfl toyShip toy_sw
  rw [toy_ok] at this
  exact this
theorem shortArcs_ok (l : List ArcS) (h : SmA l) : PureC Tryz.prog 33 [.ro (l.map arcS)] (fun x => ∃ b : Bool, x = .val (.bool b) ∧ (b = true → l.length ≤ 20)) := by
  have hl := h.n
  refine pure_enter Tryz.func33 rfl (by simp) (fun C hC => ?_)
  simp
  refine ⟨fun c => fin_b (.inl rfl), fun c => ?_⟩
  refine CodeJ.loop (ι := Nat) (fun i => ⟨29, [(0, .ro (l.map arcS)), (3, iv i)], []⟩)
    (fun i => i ≤ l.length) (fun i => l.length - i) 0 ?_ ?_ ?_
  · simp
  · simp [leS, hC]
  · rintro i hi
    by_cases hlt : i < l.length
    · have h1 := h.cap i hlt
      have h2 := h.cost i hlt
      simp (disch := omega) [hlt, lget_arcS, w64]
      repeat (refine And.intro (by omega) ?_)
      repeat' (apply And.intro <;> intro _)
      all_goals first | exact fin_b (.inl rfl) | exact ⟨i + 1, by omega, by omega, by simp (disch := omega) [leS, hC, w64]⟩
    · obtain rfl : i = l.length := by omega
      simp
      exact fin_b (.inr ⟨rfl, by omega⟩)
set_option maxRecDepth 20000 in
theorem netsChecks_ok (nodes : Int) (l : List ArcS) (supply : List ByteArray) (w : NWay) (h1 : SmA l) (h2 : SmN supply) (h3 : SmW w) :
    PureE Tryz.prog 5 [iv nodes, .ro (l.map arcS), .ro (supply.map strv), wayV w] (fun x => x = .val (.bool true)) := by
  refine pureE_enter Tryz.func5 rfl (by simp) (fun C hC hX hE => ?_)
  refine CodeJ.go ?_
  simp
  refine callS (gLone) (by simp) ?_
  simp
  refine callS (gArcs) (by simp) ?_
  simp
  refine callF (gNums (a := s3) (b := sm3) (by decide) (by decide) n3 nm3 (by kernel_rfl)) (by simp [s3, sm3]) ?_
  simp
  refine callF (gNums (a := s2) (b := s1) (by decide) (by decide) n2 n1 (by kernel_rfl)) (by simp [s2, s1]) ?_
  simp
  refine callF (gNums (a := s0) (b := s4) (by decide) (by decide) n0 n4 (by kernel_rfl)) (by simp [s0, s4]) ?_
  simp
  refine callF gNum6 (by simp [s6]) ?_
  simp
  repeat (refine And.intro (by omega) ?_)
  refine callNl ?_
  simp [nlL_rc, nlV_wayV, nlV_rsv]
  refine callF gToyN (by simp [toyShip, shipQ]) ?_
  have g1 := rArcs_ok l h1
  have g2 := rNumbers_ok supply h2
  have g3 := rNumbers_ok w.flow h3.f
  have g4 := rNumbers_ok w.prices h3.p
  have hws := h3.s
  have hcs := h3.c
  rw [numX_eq] at g2 g3 g4
  have g5 := pQRead_ok w.cost (by omega)
  simp
  repeat (refine And.intro (by omega) ?_)
  refine callS (g1) (by simp) ?_
  simp
  repeat (refine And.intro (by omega) ?_)
  refine callS (g2) (by simp) ?_
  simp
  repeat (refine And.intro (by omega) ?_)
  refine callS (g3) (by simp) ?_
  simp
  repeat (refine And.intro (by omega) ?_)
  refine callS (g4) (by simp) ?_
  by_cases hq : (qrd 300 w.cost).2.1 = 0
  · simp
    repeat (refine And.intro (by omega) ?_)
    refine callS (pnum_ok w.cost (by omega) hq) (by simp) ?_
    simp [fsv]
    repeat (refine And.intro (by omega) ?_)
    refine callP (shortArcs_ok l h1) (by simp) ?_
    rintro x ⟨b1, rfl, f1⟩
    simp
    repeat (refine And.intro (by omega) ?_)
    refine callP (short3_ok supply h2) (by simp) ?_
    rintro x ⟨b2, rfl, f2⟩
    simp
    repeat (refine And.intro (by omega) ?_)
    refine callP (short3_ok w.flow h3.f) (by simp) ?_
    rintro x ⟨b3, rfl, f3⟩
    simp
    repeat (refine And.intro (by omega) ?_)
    refine callP (short3_ok w.prices h3.p) (by simp) ?_
    rintro x ⟨b4, rfl, f4⟩
    cases o1 : okA l with
    | false => simp
    | true =>
    cases o2 : okN supply with
    | false => simp
    | true =>
    cases o3 : okN w.flow with
    | false => simp
    | true =>
    cases o4 : okN w.prices with
    | false => simp
    | true =>
    cases b1 with
    | false => simp
    | true =>
    cases b2 with
    | false => simp
    | true =>
    cases b3 with
    | false => simp
    | true =>
    cases b4 with
    | false => simp
    | true =>
    have t1 := pArcs_ok l h1
    have t2 := pNumbers_ok supply h2
    have t3 := pNumbers_ok w.flow h3.f
    have t4 := pNumbers_ok w.prices h3.p
    have t5 := pNumber_ok w.cost (by omega)
    rw [arcsQ, if_pos o1, o1] at t1
    rw [numsQ, if_pos o2] at t2
    rw [numsQ, if_pos o3] at t3
    rw [numsQ, if_pos o4] at t4
    rw [hq, show decide ((0 : Nat) = 0) = true from rfl] at t5
    have hw : ArcW (arcs l) := arcW l h1.n
    have hl : (arcs l).length ≤ 1048576 := hw.n
    have t6 := rNetValid_ok nodes (arcs l) hl
    let p : Ship := ⟨w.none, nums w.flow, nums w.prices, w.side, num w.cost⟩
    have hpw : ShipW p := ⟨by simp only [p, nums_len]; have := h3.f.n; omega, by simp only [p, nums_len]; have := h3.p.n; omega, hws, wd_nums _, wd_nums _, qw_qrd _⟩
    have ep : SV.agg (.val (.bool w.none) :: .ro ((nums w.flow).map rsv) :: .ro ((nums w.prices).map rsv) :: .ro (w.side.map bov) :: (rsv (num w.cost)).cells) = shipQ p := rfl
    have epP : SV.agg (.val (.bool w.none) :: .ro ((nums w.flow).map qsv) :: .ro ((nums w.prices).map qsv) :: .ro (w.side.map bov) :: (qsv (num w.cost)).cells) = shipP p := rfl
    have m1 := f1 rfl
    have m2 := f2 rfl
    have m3 := f3 rfl
    have m4 := f4 rfl
    simp
    repeat (refine And.intro (by omega) ?_)
    intro c1 c2
    refine callS (t1) (by simp) ?_
    simp
    repeat (refine And.intro (by omega) ?_)
    refine callS (t2) (by simp) ?_
    simp
    repeat (refine And.intro (by omega) ?_)
    refine callS (t3) (by simp) ?_
    simp
    repeat (refine And.intro (by omega) ?_)
    refine callS (t4) (by simp) ?_
    simp
    repeat (refine And.intro (by omega) ?_)
    refine callS (t5) (by simp) ?_
    simp [ep, epP, arcsP, numX, o1, o2, o3, o4]
    repeat (refine And.intro (by omega) ?_)
    by_cases hc : netC nodes (arcs l) = 0
    · obtain ⟨n, rfl, hn⟩ := net_of hc
      by_cases hk : supply.length = n
      · refine callF (qCheck_ok n (arcs l) hc hw (nums supply) (wd_nums _) (by simpa using hk) p hpw) (by simp) ?_
        simp
        repeat (refine And.intro (by omega) ?_)
        refine callS (t6) (by simp) ?_
        simp [hc, hk]
        refine callF (rShipped_ok n (arcs l) hn hw (nums supply) (wd_nums _) (by simpa using hk) p hpw) (by simp [epP, Sub_self _ (shipP p) rfl]) ?_
        simp
      · have hc4 := coded3_ok (c := 4) (by omega) (by omega) 4
        have hk' : ¬ (supply.length : Int) = n := by omega
        refine callF (qCheckS_ok n (arcs l) hl (nums supply) p hc (by simp; omega)) (by simp) ?_
        simp
        repeat (refine And.intro (by omega) ?_)
        refine callS (t6) (by simp) ?_
        simp [hc, hk, hk']
        refine callE hc4 hE hX (by simp) (fun x hx => ?_)
        subst hx
        simp
    · have hc4 := coded3_ok (c := netC nodes (arcs l)) (by omega) (by rcases netC_le nodes (arcs l) with e | e | e <;> omega) (netC nodes (arcs l) : Nat)
      have hpos : (0 : Int) < (netC nodes (arcs l) : Nat) := by omega
      have hpos' : 0 < netC nodes (arcs l) := by omega
      have hc' : ¬ ((netC nodes (arcs l) : Nat) : Int) = 0 := by omega
      refine callF (qCheckE_ok nodes (arcs l) hl (nums supply) p hc) (by simp) ?_
      simp
      repeat (refine And.intro (by omega) ?_)
      refine callS (t6) (by simp) ?_
      simp [hc, hc', hpos, hpos']
      refine callE hc4 hE hX (by simp) (fun x hx => ?_)
      subst hx
      simp
  · have hpos : 0 < (qrd 300 w.cost).2.1 := by omega
    simp
    repeat (refine And.intro (by omega) ?_)
    refine callS (g5) (by simp) ?_
    simp [outP, hq, fsv]
    repeat (refine And.intro (by omega) ?_)
    refine callP (shortArcs_ok l h1) (by simp) ?_
    rintro x ⟨b1, rfl, f1⟩
    simp
    repeat (refine And.intro (by omega) ?_)
    refine callP (short3_ok supply h2) (by simp) ?_
    rintro x ⟨b2, rfl, f2⟩
    simp
    repeat (refine And.intro (by omega) ?_)
    refine callP (short3_ok w.flow h3.f) (by simp) ?_
    rintro x ⟨b3, rfl, f3⟩
    simp
    repeat (refine And.intro (by omega) ?_)
    refine callP (short3_ok w.prices h3.p) (by simp) ?_
    rintro x ⟨b4, rfl, f4⟩
    cases o1 : okA l with
    | false => simp
    | true =>
    cases o2 : okN supply with
    | false => simp
    | true =>
    cases o3 : okN w.flow with
    | false => simp
    | true =>
    cases o4 : okN w.prices with
    | false => simp
    | true =>
    simp [hpos]
end Go.Proofs

