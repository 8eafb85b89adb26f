/- What the law PlanChecks returns. The arguments of the law PlanChecks as plain data. A text of the prover's own. -/
import Derived.Test.YtlkaaaoeemejoaaGreatDoorQCe
import Derived.Test.YtlkaaaoeemejoaaGreatDoorQMt
namespace Go.Sv
open Go
/-- entry k is not written any more, and the call may read it where its arguments name it -/
theorem callFz {P : Program} {C : Ctx} {f : FuncId} {args : List SV} {M : Tab} {K : Tab → List Nat → SV → Prop} (k : Nat) {e : Ent} (hk : tget M k = some e) (hp : SV.pureL e.es = true)
    (h : CallJ P C f (sbL k e.es args) (sbM k e.es (tset M k (some ⟨e.sz, e.es, true⟩))) none K) : CallJ P C f args M none K := by
  intro β H w vals hd hW
  obtain ⟨H1, h1, h2⟩ := hW.freeze (tget_some hk) hp
  rw [← tset_eq] at h2
  have hk' : tget (tset M k (some ⟨e.sz, e.es, true⟩)) k = some ⟨e.sz, e.es, true⟩ := by
    rw [tget_set _ _ _ _ ⟨e, hk⟩, if_pos rfl]
  have hd1 := sbL_denT (e := ⟨e.sz, e.es, true⟩) h2 hk' rfl (DenT.mono h1 _ _ (fun _ _ _ h => h) hd)
  refine Calls.mono (h β H1 w vals hd1 (h2.sb (e := ⟨e.sz, e.es, true⟩) hk' rfl)) ?_
  rintro e w' ⟨β', H', M', v, x, ks, rfl, g1, g2, g3, g4, g5, g6, g7⟩
  exact ⟨β', H', M', v, x, ks, rfl, g1, g2, g3, fun b cs hb => g4 b cs (h1 b cs hb), g5, g6, fun ks h => by cases h⟩
end Go.Sv
namespace Go.Cu
open Go Go.Sv Go.Proofs Go.Pl in
theorem qc_eq (q : Rat) : (qsv q).cells = [.val (.bool (decide (q.num < 0))), .ro ((dig 10000 q.num.natAbs).map i64), .val (.bool false), .ro ((dig 10000 q.den).map i64)] := rfl
open Go Go.Sv Go.Proofs in
theorem rc_pure (q : Rat) : SV.pureL (rsv q).cells = true := rfl
open Go Go.Sv Go.Proofs in
theorem sbV_rsv {k : Nat} {es : List SV} (q : Rat) : sbV k es (rsv q) = rsv q := sbV_pure _ _ _ rfl
open Go Go.Sv Go.Proofs in
theorem rc_uses (q : Rat) (k : Nat) : SV.usesL k (rsv q).cells = false := rfl
open Go Go.Sv Go.Proofs Go.Tb in
def numX (l : List ByteArray) : List SV := if okN l then (nums l).map qsv else []
open Go Go.Sv Go.Proofs Go.Tb in
theorem numX_eq (l : List ByteArray) : numsP l = .tup [.ro (numX l), .val (.bool (okN l))] := by
  unfold numsP numX; cases okN l <;> simp
open Go Go.Sv Go.Proofs in
theorem sbL_rc {k : Nat} {es : List SV} (q : Rat) : sbL k es (rsv q).cells = (rsv q).cells := sbL_pure _ _ _ rfl
open Go Go.Sv Go.Pl Go.Proofs Go.Tb
@[simp] theorem erV_csz (c : Nat) : (erV c).csz = 1 := by unfold erV; split <;> rfl
@[simp] theorem erV_isTup (c : Nat) : (erV c).isTup = false := by unfold erV; split <;> rfl
@[simp] theorem erV_isAgg (c : Nat) : (erV c).isAgg = false := by unfold erV; split <;> rfl
@[simp] theorem erV_one (c : Nat) : (erV c).one = true := by unfold erV; split <;> rfl
@[simp] theorem erV_pure (c : Nat) : (erV c).pure = true := by unfold erV; split <;> rfl
@[simp] theorem erV_lt (n c : Nat) : (erV c).lt n = true := by unfold erV; split <;> rfl
@[simp] theorem erV_uses (k c : Nat) : (erV c).uses k = false := by unfold erV; split <;> rfl
@[simp] theorem erV_ks (c : Nat) : (erV c).ks = [] := by unfold erV; split <;> rfl
end Go.Cu
namespace Go.Proofs
open Go.Sv Go Go.Tb Go.Pl Go.Cu
theorem short_ok (l : List ByteArray) (h : SmN l) : PureC Tryz.prog 15 [.ro (l.map strv)] (fun x => ∃ b : Bool, x = .val (.bool b) ∧ (b = true → l.length ≤ 40)) := by
  have hl := h.n
  refine pure_enter Tryz.func15 rfl (by simp) (fun C hC => ?_)
  simp
  refine ⟨fun c => fin_b (.inl rfl), fun c => ?_⟩
  refine CodeJ.loop (ι := Nat) (fun i => ⟨19, [(0, .ro (l.map strv)), (3, .val (.int .i64 i))], []⟩)
    (fun i => i ≤ l.length) (fun i => l.length - i) 0 ?_ ?_ ?_
  · simp
  · simp [leS, hC]
  · rintro i hi
    by_cases hlt : i < l.length
    · have hs := h.s _ (gt_mem hlt)
      simp (disch := omega) [hlt, lget_str]
      exact ⟨fun q => fin_b (.inl rfl), fun q => ⟨i + 1, by omega, by omega, by simp (disch := omega) [leS, hC, w64]⟩⟩
    · obtain rfl : i = l.length := by omega
      simp
      exact fin_b (.inr ⟨rfl, by omega⟩)
theorem coded3_ok {c : Nat} (hc : c = 2 ∨ c = 4) (n : Int) : PureE Tryz.prog 17 [erV c, .val (.int .i64 n)] (fun x => x = .val (.bool (decide ((c : Int) = n)))) := by
  refine pureE_enter Tryz.func17 rfl (by simp) (fun C hC hX hE => ?_)
  refine CodeJ.go ?_
  have cs := codeS_ok (j := c - 1) (by omega)
  have e : erV c = .sen sent (gs (c - 1)) := by unfold erV; rw [if_neg (by omega)]
  rw [show c - 1 + 1 = c by omega] at cs
  rw [e]
  simp
  refine callE cs hE hX (by simp) (fun x hx => ?_)
  subst hx
  simp
def one1 : ByteArray := ⟨#[49]⟩
def half1 : ByteArray := ⟨#[49, 47, 50]⟩
theorem okN_one : okN [one1] = true := by kernel_rfl
theorem okN_half : okN [half1] = true := by kernel_rfl
theorem num_one : num one1 = 1 := by decide +kernel
theorem num_half : num half1 = 1 / 2 := by decide +kernel
def toyCut : Cut := ⟨[[2]], [1], [1 / 2], 1⟩
theorem toy_stock : stockC 10 [(5, 2)] = 0 := by decide
theorem toy_ok : CutOK 10 [(5, 2)] toyCut where
  ca := by decide
  cb := fun k hk => by
    obtain rfl : k = 0 := by simp [toyCut] at hk; omega
    refine ⟨?_, by decide, by decide⟩
    show ¬ (1 : Rat).num.sign < 0
    decide
  cc := fun i hi => by
    obtain rfl : i = 0 := by simp at hi; omega
    refine ⟨?_, ?_⟩
    · decide +kernel
    · show ¬ (1 / 2 : Rat).num.sign < 0
      decide +kernel
  cd := by decide +kernel
  ce := by decide +kernel
  cf := by decide +kernel
theorem sm_one {s : ByteArray} (h : s.size ≤ 1048576) : SmN [s] := ⟨by simp, fun x hx => by simp only [List.mem_singleton] at hx; rw [hx]; exact h⟩
theorem gOne : PureF Tryz.prog 10 [.ro ([one1].map strv)] (.tup [.ro [rsv 1], .val (.bool true)]) := by
  have := pNumbers_ok [one1] (sm_one (by decide))
  rwa [show numsQ [one1] = .tup [.ro [rsv 1], .val (.bool true)] by rw [numsQ, okN_one, if_pos rfl]; simp [nums, num_one]] at this
theorem gHalf : PureF Tryz.prog 10 [.ro ([half1].map strv)] (.tup [.ro [rsv (1 / 2)], .val (.bool true)]) := by
  have := pNumbers_ok [half1] (sm_one (by decide))
  rwa [show numsQ [half1] = .tup [.ro [rsv (1 / 2)], .val (.bool true)] by rw [numsQ, okN_half, if_pos rfl]; simp [nums, num_half]] at this
theorem gNum : PureF Tryz.prog 11 [.val (.string ⟨#[49]⟩)] (.tup [rsv 1, .val (.bool true)]) := by
  have := pNumber_ok one1 (by decide)
  rw [num_one, show decide ((qrd 300 one1).2.1 = 0) = true by decide +kernel] at this
  exact this
theorem wd_one {q : Rat} {k : Nat} (h : qw k q) : Wd k [q] := fun i hi => by
  obtain rfl : i = 0 := by simp at hi; omega
  exact h
theorem toy_s : CutS toyCut where
  np := by decide
  nl := fun k hk => by
    obtain rfl : k = 0 := by simp [toyCut] at hk; omega
    decide
  nt := by decide
  nw := by decide
  wt := wd_one (by rw [← num_one]; exact qw_qrd _)
  ww := wd_one (by rw [← num_half]; exact qw_qrd _)
  wr := by rw [show toyCut.rolls = num one1 from num_one.symm]; exact qw_qrd _
theorem gToy : PureF Tryz.prog 12 [.val (.int .i64 10), .ro ([(5, 2)].map sizeV), .rop (cutQ toyCut) 0] (.tup [.val (.bool true), .val .nilIface]) := by
  have := checkCut_ok 10 [(5, 2)] toy_stock toyCut toy_s
  rw [cutB_yes toy_ok] at this
  exact this
set_option maxRecDepth 20000 in
theorem planChecks_ok (roll : Int) (sz : List Sz) (pats : List (List Int)) (times worth : List ByteArray) (rolls : ByteArray) (h1 : sz.length ≤ 1048576) (h2 : pats.length ≤ 1048576) (h2' : ∀ r ∈ pats, r.length ≤ 1048576) (h3 : SmN times) (h4 : SmN worth) (h5 : rolls.size ≤ 1048576) :
    PureE Tryz.prog 3 [iv roll, .ro (sz.map sizeV), .ro (pats.map ilv), .ro (times.map strv), .ro (worth.map strv), .val (.string rolls)] (fun x => x = .val (.bool true)) := by
  refine pureE_enter Tryz.func3 rfl (by simp) (fun C hC hX hE => ?_)
  refine CodeJ.go ?_
  simp
  refine callF gOne (by simp [one1]) ?_
  simp
  refine callF gHalf (by simp [half1]) ?_
  simp
  refine callS gNum (by simp) ?_
  simp
  refine ⟨rfl, callFz 4 rfl (by simp) ?_⟩
  simp [tset, sbL_rc, sbV_rsv]
  refine callFz 5 rfl (by simp) ?_
  simp [tset, sbL_rc, sbV_rsv]
  refine callF gToy (by simp [toyCut, Cu.cutQ, sizeV, rc_pure]) ?_
  have g1 := rNumbers_ok times h3
  have g2 := rNumbers_ok worth h4
  rw [numX_eq] at g1 g2
  have hr : rolls.size ≤ 4611686018427387904 := by omega
  simp
  refine callS g1 (by simp) ?_
  simp
  refine callS g2 (by simp) ?_
  by_cases hq : (qrd 300 rolls).2.1 = 0
  · simp
    refine callS (pnum_ok rolls hr hq) (by simp) ?_
    simp [fsv]
    refine callP (short_ok times h3) (by simp) ?_
    rintro x ⟨b1, rfl, f1⟩
    simp
    refine callP (short_ok worth h4) (by simp) ?_
    rintro x ⟨b2, rfl, f2⟩
    cases o1 : okN times with
    | false => simp
    | true =>
      cases o2 : okN worth with
      | false => simp
      | true =>
        cases b1 with
        | false => simp
        | true =>
          cases b2 with
          | false => simp
          | true =>
            simp
            intro c1 c2 c3
            have t1 := pNumbers_ok times h3
            have t2 := pNumbers_ok worth h4
            have t3 := pNumber_ok rolls hr
            rw [show numsQ times = .tup [.ro ((nums times).map rsv), .val (.bool true)] by simp [numsQ, o1]] at t1
            rw [show numsQ worth = .tup [.ro ((nums worth).map rsv), .val (.bool true)] by simp [numsQ, o2]] at t2
            rw [hq, show decide ((0 : Nat) = 0) = true from rfl] at t3
            have hcs : CutS ⟨pats, nums times, nums worth, num rolls⟩ := by
              refine ⟨by show pats.length ≤ 40; omega, fun k hk => h2' _ (gt_mem hk), by simpa using h3.n, by simpa using h4.n, fun i hi => ?_, fun i hi => ?_, qw_qrd _⟩
              · simp only [nums_len] at hi; show qw 2200 (gt (nums times) i); rw [gt_nums hi]; exact qw_qrd _
              · simp only [nums_len] at hi; show qw 2200 (gt (nums worth) i); rw [gt_nums hi]; exact qw_qrd _
            have t5 := rStock_ok roll sz h1
            refine callS t1 (by simp) ?_
            simp
            refine callS t2 (by simp) ?_
            simp
            refine callS t3 (by simp) ?_
            simp
            by_cases hst : stockC roll sz = 0
            · obtain ⟨R, rfl⟩ : ∃ R : Nat, roll = R := ⟨roll.toNat, by have := (stk_of hst).r1; omega⟩
              have t4 := checkCut_ok R sz hst _ hcs
              have t6 := cutRight_ok R sz (stk_of hst) _ hcs
              rw [hst] at t5
              refine ⟨rfl, callF t4 (by simp [Cu.cutQ, rc_pure]) ?_⟩
              simp
              refine callS t5 (by simp) ?_
              simp
              refine callF t6 (by simp [cutP, numX, o1, o2, qc_eq]) ?_
              simp
            · have t4 := checkCutE_ok roll sz ⟨pats, nums times, nums worth, num rolls⟩ h1 hst
              have hc3 := coded3_ok (c := stockC roll sz) (by rcases stockC_le roll sz with e | e | e <;> omega) (stockC roll sz : Nat)
              have hpos : (0 : Int) < (stockC roll sz : Nat) := by omega
              have hpos' : 0 < stockC roll sz := by omega
              refine ⟨rfl, callF t4 (by simp [Cu.cutQ, rc_pure]) ?_⟩
              simp
              refine callS t5 (by simp) ?_
              simp [hpos, hpos']
              refine callE hc3 hE hX (by simp) (fun x hx => ?_)
              subst hx
              simp
  · simp
    refine callS (pQRead_ok rolls hr) (by simp) ?_
    simp [outP, hq, fsv]
    refine callP (short_ok times h3) (by simp) ?_
    rintro x ⟨b1, rfl, f1⟩
    simp
    refine callP (short_ok worth h4) (by simp) ?_
    rintro x ⟨b2, rfl, f2⟩
    cases o1 : okN times with
    | false => simp
    | true =>
      cases o2 : okN worth with
      | false => simp
      | true =>
        simp
        exact fun h => absurd h hq
end Go.Proofs
namespace Go.Cu
open Go Go.Sv Go.Pl Go.Proofs Go.Tb
def sizeT : Pt := .pair (.int .i64) (.pair (.int .i64) .unit)
def sizesT : Pt := .sl sizeT
def intsT : Pt := .sl (.int .i64)
def patsT : Pt := .sl intsT
def szOne (y : sizeT.T) : Sz := (y.1, y.2.1)
def szOf (x : sizesT.T) : List Sz := List.map szOne x
theorem sizes_sv (x : sizesT.T) : sizesT.sv x = .ro ((szOf x).map sizeV) := by
  have e : ∀ l : List sizeT.T, List.map sizeV (List.map szOne l) = List.map (fun y => sizeT.sv y) l := fun l => by rw [List.map_map]; rfl
  show SV.ro (List.map (fun y => sizeT.sv y) x) = SV.ro (List.map sizeV (List.map szOne x))
  exact congrArg SV.ro (e x).symm
theorem pats_sv (x : patsT.T) : patsT.sv x = .ro ((x : List (List Int)).map ilv) := rfl
theorem int_sv (x : (Pt.int .i64).T) : (Pt.int .i64).sv x = iv x := rfl
theorem str_sv (x : Pt.str.T) : Pt.str.sv x = .val (.string x) := rfl
theorem sl_len {e : Pt} {x : (Pt.sl e).T} (h1 : ∀ y, 1 ≤ e.bk y) (h : (Pt.sl e).bk x ≤ 1048576) : (show List e.T from x).length ≤ 1048576 := by
  have h' : (List.map e.bk (show List e.T from x)).sum + 1 ≤ 1048576 := h
  exact Nat.le_trans (sum_len (f := e.bk) h1 (l := (show List e.T from x))) (by omega)
theorem sizes_len {x : sizesT.T} (h : sizesT.bk x ≤ 1048576) : (szOf x).length ≤ 1048576 := by
  have e : ∀ l : List sizeT.T, (List.map szOne l).length = l.length := fun l => List.length_map ..
  refine Nat.le_trans (Nat.le_of_eq (e x)) ?_
  exact sl_len (e := sizeT) (fun y => by show 1 ≤ 1 + (1 + 0); omega) h
theorem pats_len {x : patsT.T} (h : patsT.bk x ≤ 1048576) : (show List (List Int) from x).length ≤ 1048576 :=
  sl_len (e := intsT) (fun y => by show 1 ≤ (List.map (Pt.int .i64).bk y).sum + 1; omega) h
theorem pats_row {x : patsT.T} (h : patsT.bk x ≤ 1048576) : ∀ r ∈ (show List (List Int) from x), r.length ≤ 1048576 := fun r hr => by
  have h' : (List.map intsT.bk (show List intsT.T from x)).sum + 1 ≤ 1048576 := h
  have : intsT.bk r ≤ _ := sum_mem (f := intsT.bk) hr
  exact sl_len (e := .int .i64) (x := r) (fun y => Nat.le_refl 1) (Nat.le_trans this (by omega))
theorem str_len {x : Pt.str.T} (h : Pt.str.bk x ≤ 1048576) : ByteArray.size x ≤ 1048576 := by
  have h' : ByteArray.size x + 1 ≤ 1048576 := h
  omega
end Go.Cu

