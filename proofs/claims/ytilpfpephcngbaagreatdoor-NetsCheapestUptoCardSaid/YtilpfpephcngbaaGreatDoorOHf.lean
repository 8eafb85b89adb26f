/- What nets.Cheapest returns. One round of nets.Cheapest. What the law NetsCheapest returns. A text of the prover's own. -/
import Derived.Test.YtilpfpephcngbaaGreatDoorOHc
import Derived.Test.YtilpfpephcngbaaGreatDoorOFc
import Derived.Test.YtilpfpephcngbaaGreatDoorOQt
import Derived.Test.YtilpfpephcngbaaGreatDoorOBe
namespace Go.Fl
open Go Go.Sv Go.Pl Go.Proofs Go.Tb Go.Ut Go.Ne
def accS (k : List Rat) : Nat → Rat
  | 0 => 0
  | i + 1 => accS k i + gt k i
theorem accS_ss {k : List Rat} {n : Nat} : ∀ j, j ≤ n → ss (List.replicate n true) (gt k) j = accS k j
  | 0, _ => rfl
  | j + 1, h => by
    simp only [ss, accS]
    rw [accS_ss j (by omega), gt_rep (by omega), if_pos rfl]
theorem qw_accS {k : List Rat} (hk : Wd 2200 k) : ∀ i, i ≤ k.length → qw (1 + 2201 * i) (accS k i)
  | 0, _ => qw_zero _ (by omega)
  | i + 1, h => qw_mono (qw_add (qw_accS hk i (by omega)) (hk i (by omega))) (by omega)
theorem lefts_skip {n : Nat} {k : List Rat} {l : List Arc} {flow : List Rat} {i : Nat} (h : gt flow i = 0) : lefts n k l flow (i + 1) = lefts n k l flow i := by
  unfold lefts
  refine List.map_congr_left fun v _ => ?_
  simp only [dl, h]
  split <;> split <;> grind
theorem first_wd {l : List Arc} (hw : ArcW l) : Wd 2200 (first l) := fun i hi => by
  have hi : i < l.length := by simpa using hi
  rw [gt_first hi]; split
  · exact hw.cap i hi
  · exact qw_zero _ (by omega)
/-- the first arcs are filled -/
def firstN (l : List Arc) (i : Nat) : List Rat := (List.range l.length).map fun j => if j < i then gt (first l) j else 0
@[simp] theorem firstN_len (l : List Arc) (i : Nat) : (firstN l i).length = l.length := by simp [firstN]
theorem gt_firstN {l : List Arc} {i j : Nat} (h : j < l.length) : gt (firstN l i) j = if j < i then gt (first l) j else 0 := gt_range h
theorem firstN_zero (l : List Arc) : firstN l 0 = List.replicate l.length 0 := by
  refine ext_gt' (by simp) fun j hj => ?_
  have hj : j < l.length := by simpa using hj
  rw [gt_firstN hj, gt_rep hj, if_neg (by omega)]
theorem firstN_end (l : List Arc) : firstN l l.length = first l := by
  refine ext_gt' (by simp) fun j hj => ?_
  have hj : j < l.length := by simpa using hj
  rw [gt_firstN hj, if_pos hj]
theorem firstN_set {l : List Arc} {i : Nat} (_ : i < l.length) : (firstN l i).set i (gt (first l) i) = firstN l (i + 1) := by
  refine ext_gt' (by simp) fun j hj => ?_
  have hj : j < l.length := by simpa using hj
  rw [gt_set (by simpa using hj), gt_firstN hj, gt_firstN hj]
  by_cases e : i = j
  · subst e; rw [if_pos rfl, if_pos (by omega)]
  · rw [if_neg e]
    by_cases c : j < i
    · rw [if_pos c, if_pos (by omega)]
    · rw [if_neg c, if_neg (by omega)]
theorem firstN_skip {l : List Arc} {i : Nat} (h : i < l.length) (h0 : gt (first l) i = 0) : firstN l (i + 1) = firstN l i := by
  refine ext_gt' (by simp) fun j hj => ?_
  have hj : j < l.length := by simpa using hj
  rw [gt_firstN hj, gt_firstN hj]
  by_cases e : j = i
  · subst e; rw [if_pos (by omega), if_neg (by omega), h0]
  · by_cases c : j < i
    · rw [if_pos c, if_pos (by omega)]
    · rw [if_neg c, if_neg (by omega)]
theorem usesL_repl {n k : Nat} {x : SV} (h : x.uses k = false) : SV.usesL k (List.replicate n x) = false := by
  induction n with
  | zero => rfl
  | succ n ih => rw [List.replicate_succ]; simp [h, ih]
def mainSt (n : Nat) (l : List Arc) (k x : List Rat) : St := ⟨207, [(0, iv n), (1, .ro (l.map arcQ)), (12, .ptr 2 0 0), (13, .view 3 0 n)], [none, flowE x, restE n l 1, some ⟨4, (lefts n k l x l.length).map rsv, false⟩]⟩
def CheapestPhi (n : Nat) (l : List Arc) (k : List Rat) (y : SV) : Prop := ∃ p : Ship, y = .tup [.rop (shipQ p) 0, .val .nilIface] ∧ ShipOK n l k p ∧ p.flow.length ≤ 300 ∧ p.prices.length ≤ 60 ∧ p.side.length ≤ 60 ∧ Wd 2000000 p.flow ∧ Wd 1400000 p.prices ∧ qw 9000000 p.cost
end Go.Fl
namespace Go.Proofs
open Go.Sv Go Go.Tb Go.Pl Go.Ut Go.Ne Go.Fl
set_option maxRecDepth 10000 in
theorem qCheapestE_ok (n : Int) (l : List Arc) (hl : l.length ≤ 1048576) (k : List Rat) (h : netC n l ≠ 0) : PureF Tryz.prog 131 [iv n, .ro (l.map arcQ), .ro (k.map rsv)] (.tup [.val (.pointer none), erV (netC n l)]) := by
  have g := qNetValid_ok n l hl
  refine pure_enter Tryz.func131 rfl (by simp) (fun C hC => ?_)
  simp
  refine callS (g) (by simp) ?_
  rcases netC_le n l with e | e | e
  · exact absurd e h
  · rw [e, erV_2]; simp
  · rw [e, erV_4]; simp
abbrev cheapestQ (n : Nat) (l : List Arc) (k : List Rat) : Post := retQ Tryz.prog [.tmp 6, .tmp 7] (CheapestPhi n l k)
noncomputable def cheapestBody : Code := Tryz.f131.body.getD .skip
set_option maxRecDepth 10000 in
/-- supplies that are not so many, or are not nought together -/
theorem qCheapestS_ok (n : Int) (l : List Arc) (hl : l.length ≤ 1048576) (k : List Rat) (hk : Wd 2200 k) (hkl : k.length ≤ 1048576) (h : netC n l = 0) (hs : (k.length : Int) ≠ n ∨ accS k k.length ≠ 0) : PureF Tryz.prog 131 [iv n, .ro (l.map arcQ), .ro (k.map rsv)] (.tup [.val (.pointer none), erV 4]) := by
  have g := qNetValid_ok n l hl
  rw [h, erV_0] at g
  rw [erV_4]
  refine pure_enter Tryz.func131 rfl (by simp) (fun C hC => ?_)
  simp
  refine callS (g) (by simp) ?_
  simp
  refine CodeJ.le (Le.nl _) ?_
  simp [nlS]
  refine CodeJ.loopL (ι := Nat) (fun i => ⟨207, [(0, iv n), (1, .ro (l.map arcQ)), (2, .ro (k.map rsv)), (6, .val (.pointer none)), (7, .val .nilIface), (9, .ptr 0 0 0), (32, .ro (k.map rsv)), (33, iv k.length), (34, iv i)], [some ⟨4, [rsv (accS k i)], false⟩]⟩)
    (fun i => i ≤ k.length) (fun i => k.length - i) 0 (by simp) ?_ ?_
  · simp [leS, hC, accS, rsv0]
  · rintro i hi
    by_cases hlt : i < k.length
    · have q1 := qw_accS hk i hi
      have q2 := hk i hlt
      have lk := lget_r hlt
      simp (disch := omega) [hlt, lk]
      repeat (refine And.intro (by omega) ?_)
      refine callS (qAdd_ok _ _ (qok_of q1 (by omega)) (qok_of q2 (by omega))) (by simp) ?_
      simp (disch := omega) [w64]
      repeat (refine And.intro (by omega) ?_)
      exact ⟨i + 1, by omega, by omega, Le.syn (by simp (disch := omega) [leS, hC, w64, accS])⟩
    · obtain rfl : i = k.length := by omega
      by_cases c1 : (k.length : Int) = n
      · have c2 : accS k k.length ≠ 0 := hs.resolve_left (fun q => q c1)
        simp (disch := omega) [c1]
        repeat (refine And.intro (by omega) ?_)
        refine callS (sgnQ (accS k k.length)) (by simp) ?_
        simp (disch := omega) [c2]
        repeat (refine And.intro (by omega) ?_)
        refine CodeJ.draw (.qs [0, 1, 2] <| .nil) (by kernel_rfl) (by kernel_rfl) (by simp) ?_
        simp
      · simp (disch := omega) [c1]
        repeat (refine And.intro (by omega) ?_)
        refine CodeJ.draw (.qs [0, 1, 2] <| .nil) (by kernel_rfl) (by kernel_rfl) (by simp) ?_
        simp
set_option maxRecDepth 10000 in
/-- up to the loop that sends on what is left -/
theorem qCheapestA_ok (n : Nat) (l : List Arc) (hc : netC n l = 0) (hw : ArcW l) (k : List Rat) (hk : Wd 2200 k) (hkl : k.length = n) (hs : accS k n = 0) {C : Ctx} (hC : C.fx = []) (hQ : CodeJ Tryz.prog C (dropC 8 cheapestBody) (mainSt n l k (first l)) (cheapestQ n l k)) :
    CodeJ Tryz.prog C cheapestBody ⟨207, argFr 0 [iv n, .ro (l.map arcQ), .ro (k.map rsv)], []⟩ (cheapestQ n l k) := by
  have hl := hw.n
  have g := qNetValid_ok n l hl
  rw [hc, erV_0] at g
  have hn : Net n l := by obtain ⟨m, e, h⟩ := net_of hc; obtain rfl : m = n := by omega
                          exact h
  have n2 := hn.n2
  have m := hn.m
  refine CodeJ.cutAt 5 (fun st => st = ⟨207, [(0, iv n), (1, .ro (l.map arcQ)), (2, .ro (k.map rsv))], [some ⟨4, [rsv 0], false⟩]⟩) ?_ ?_
  · simp only [cheapestBody, Tryz.f131, Option.getD_some, takeC_succ, takeC_zero]
    simp
    refine callS (g) (by simp) ?_
    simp
    refine CodeJ.le (Le.nl _) ?_
    simp [nlS]
    refine CodeJ.loopL (ι := Nat) (fun i => ⟨207, [(0, iv n), (1, .ro (l.map arcQ)), (2, .ro (k.map rsv)), (6, .val (.pointer none)), (7, .val .nilIface), (9, .ptr 0 0 0), (32, .ro (k.map rsv)), (33, iv k.length), (34, iv i)], [some ⟨4, [rsv (accS k i)], false⟩]⟩)
      (fun i => i ≤ k.length) (fun i => k.length - i) 0 (by simp) ?_ ?_
    · simp [leS, hC, accS, rsv0]
    · rintro i hi
      by_cases hlt : i < k.length
      · have q1 := qw_accS hk i hi
        have q2 := hk i hlt
        have lk := lget_r hlt
        simp (disch := omega) [hlt, lk]
        repeat (refine And.intro (by omega) ?_)
        refine callS (qAdd_ok _ _ (qok_of q1 (by omega)) (qok_of q2 (by omega))) (by simp) ?_
        simp (disch := omega) [w64]
        repeat (refine And.intro (by omega) ?_)
        exact ⟨i + 1, by omega, by omega, Le.syn (by simp (disch := omega) [leS, hC, w64, accS])⟩
      · obtain rfl : i = k.length := by omega
        rw [hkl, hs]
        simp [hkl]
        refine callS (sgnQ (0 : Rat)) (by simp) ?_
        simp [leS, hC]
  · rintro st rfl
    simp only [cheapestBody, Tryz.f131, Option.getD_some, dropC_succ, dropC_zero] at hQ ⊢
    refine CodeJ.cutAt 3 (fun st => st = mainSt n l k (first l)) ?_ (fun st e => e ▸ hQ)
    simp only [takeC_succ, takeC_zero]
    simp
    repeat (refine And.intro (by omega) ?_)
    refine ⟨⟨usesL_repl rfl, by omega⟩, ?_⟩
    refine CodeJ.le (Le.nl _) ?_
    simp [nlS, nlL_rep, nlL_rsvs, rsv0, nlV_rsv]
    refine CodeJ.go ?_
    simp
    refine CodeJ.loopL (ι := Nat) (fun i => ⟨207, [(0, iv n), (1, .ro (l.map arcQ)), (12, .ptr 2 0 0), (13, .view 3 0 n), (61, .ro (l.map arcQ)), (62, iv l.length), (63, iv i)], [none, flowE (firstN l i), restE n l 1, some ⟨4, (lefts n k l (first l) i).map rsv, false⟩]⟩)
      (fun i => i ≤ l.length) (fun i => l.length - i) 0 (by simp) ?_ ?_
    · simp [leS, hC, restE, flowE, firstN_zero, lefts_zero hkl, hkl]
    · rintro i hi
      simp only [restE, flowE]
      by_cases hlt : i < l.length
      · obtain ⟨f, t, ef, et, hf', ht⟩ := hn.a i hlt
        have la := lget_arcQ hlt
        have gf := gt_first hlt
        have wf := first_wd hw
        have ffl : (first l).length = l.length := by simp
        have q0 := hw.cap i hlt
        have q1 := qw_sub (hk f (by omega)) (qw_dl wf ffl f i hi)
        have q2 := qw_sub (hk t (by omega)) (qw_dl1 wf ffl t hlt (qw_dl wf ffl t i hi))
        have e1 : lget ((lefts n k l (first l) i).map rsv) f = rsv (gt k f - dl l (first l) f i) := by rw [lget_r (by simpa using hf'), gt_lefts hf']
        have e2 : lget ((lefts1 n k l (first l) i).map rsv) t = rsv (gt k t - (dl l (first l) t i + if (gt l i).f.toNat = t then gt (first l) i else 0)) := by rw [lget_r (by simpa using ht), gt_lefts1 ht]
        have e3 := lefts_set (k := k) (flow := first l) ef hf'
        have e4 := lefts1_set (k := k) (flow := first l) et ht
        have lx : lget ((firstN l i).map rsv) i = rsv (gt (firstN l i) i) := lget_r (by simpa using hlt)
        have fs := firstN_set hlt
        have fk := firstN_skip hlt
        have ls := lefts_skip (n := n) (k := k) (l := l) (flow := first l) (i := i)
        generalize gt (first l) i = z at *
        simp (disch := omega) [hlt, la]
        repeat (refine And.intro (by omega) ?_)
        refine callS (sgnQ (gt l i).cost) (by simp) ?_
        by_cases c : (gt l i).cost < 0
        · rw [if_pos c] at gf
          subst gf
          simp (disch := omega) [c]
          repeat (refine And.intro (by omega) ?_)
          refine CodeJ.draw (.qs [0, 1, 2, 3, 4, 5, 6, 7] <| .l 8 [1] <| .nil) (by kernel_rfl) (by kernel_rfl) (by simp) ?_
          simp (disch := omega) [la, lx, hlt, lset_eq, r_set, fs, -List.map_set]
          repeat (refine And.intro (by omega) ?_)
          refine CodeJ.draw (.qs [0, 1, 2, 3, 4, 5, 6, 7, 8, 9] <| .l 10 [] <| .qs [11] <| .l 12 [3] <| .nil) (by kernel_rfl) (by kernel_rfl) (by simp) ?_
          simp (disch := omega) [ef, e1, -List.map_set]
          repeat (refine And.intro (by omega) ?_)
          refine callS (qSub_ok _ _ (qok_of q1 (by omega)) (qok_of q0 (by omega))) (by simp) ?_
          simp (disch := omega) [ef, e1, lset_eq, r_set, e3, -List.map_set]
          repeat (refine And.intro (by omega) ?_)
          refine CodeJ.draw (.qs [0, 1, 2, 3, 4, 5, 6, 7, 8, 9] <| .l 10 [] <| .qs [11] <| .l 12 [3] <| .nil) (by kernel_rfl) (by kernel_rfl) (by simp) ?_
          simp (disch := omega) [et, e2, -List.map_set]
          repeat (refine And.intro (by omega) ?_)
          refine callS (qAdd_ok _ _ (qok_of q2 (by omega)) (qok_of q0 (by omega))) (by simp) ?_
          simp (disch := omega) [et, e2, lset_eq, r_set, e4, w64, -List.map_set]
          repeat (refine And.intro (by omega) ?_)
          exact ⟨i + 1, by omega, by omega, Le.syn (by simp (disch := omega) [leS, hC, w64])⟩
        · rw [if_neg c] at gf
          simp (disch := omega) [c, w64]
          repeat (refine And.intro (by omega) ?_)
          exact ⟨i + 1, by omega, by omega, Le.syn (by simp (disch := omega) [leS, hC, w64, fk gf, ls gf])⟩
      · obtain rfl : i = l.length := by omega
        simp (disch := omega) [firstN_end]
        repeat (refine And.intro (by omega) ?_)
        simp [leS, mainSt, restE, flowE]
end Go.Proofs
namespace Go.Fl
open Go Go.Sv Go.Pl Go.Proofs Go.Tb Go.Ut Go.Ne
def DD (l : List Arc) (k : List Rat) : Nat := dens l * densR k
theorem DD_pos (l : List Arc) (k : List Rat) : DD l k ≠ 0 := Nat.mul_ne_zero (dens_pos l) (densR_pos k)
theorem DD_cap {l : List Arc} {k : List Rat} (i : Nat) (h : i < l.length) : IsD (DD l k) (gt l i).cap := IsD.of (Nat.dvd_trans (dens_dvd (gt_mem h)) (Nat.dvd_mul_right _ _))
theorem DD_k {l : List Arc} {k : List Rat} {v : Nat} (h : v < k.length) : IsD (DD l k) (gt k v) := IsD.of (Nat.dvd_trans (densR_dvd (gt_mem h)) (Nat.dvd_mul_left _ _))
theorem DD_fw {l : List Arc} {k : List Rat} (hw : ArcW l) (hk : Wd 2200 k) : fw ((1 + 2200 * l.length) + (1 + 2200 * k.length)) (DD l k : Int) := by
  have h1 : fw (1 + 2200 * l.length) (dens l : Int) := dens_fw fun b hb => by
    obtain ⟨j, hj, rfl⟩ := List.getElem_of_mem hb
    rw [gt_get hj]; exact hw.cap j hj
  have h2 : fw (1 + 2200 * k.length) (densR k : Int) := densR_fw fun b hb => by
    obtain ⟨j, hj, rfl⟩ := List.getElem_of_mem hb
    rw [gt_get hj]; exact hk j hj
  have : ((DD l k : Nat) : Int) = (dens l : Int) * (densR k : Int) := by unfold DD; push_cast; rfl
  rw [this]; exact fw_mul h1 h2
theorem Chp.qx {n : Nat} {l : List Arc} {k x : List Rat} (a : Chp n l k (DD l k) x) (hn : Net n l) (hw : ArcW l) (hk : Wd 2200 k) (hkl : k.length = n) : Wd 2000000 x := fun i hi => by
  have n2 := hn.n2
  have m := hn.m
  have hi : i < l.length := by have := a.w.n; omega
  have b := a.w.a i hi
  exact qw_mono ((a.i i hi).qw (DD_pos l k) b.1 b.2 (hw.cap i hi).1 (DD_fw hw hk) (by omega)) (by omega)
theorem qw_dl1M {l : List Arc} {flow : List Rat} (hf : Wd 2000000 flow) (hl : flow.length = l.length) (v : Nat) {i : Nat} (h : i < l.length) {k : Nat} (hd : qw k (dl l flow v i)) : qw (k + 2000001) (dl l flow v i + if (gt l i).f.toNat = v then gt flow i else 0) :=
  qw_mono (qw_add hd (qw_if (hf i (by omega)) (by omega))) (by omega)
theorem qw_dlM {l : List Arc} {flow : List Rat} (hf : Wd 2000000 flow) (hl : flow.length = l.length) (v : Nat) : ∀ i, i ≤ l.length → qw (1 + 4000002 * i) (dl l flow v i)
  | 0, _ => qw_zero _ (by omega)
  | i + 1, h => qw_mono (qw_sub (qw_dl1M hf hl v (by omega) (qw_dlM hf hl v i (by omega))) (qw_if (hf i (by omega)) (by omega))) (by omega)
theorem qw_lf {n : Nat} {l : List Arc} {k x : List Rat} (hn : Net n l) (hk : Wd 2200 k) (hkl : k.length = n) (hx : Wd 2000000 x) (hl : x.length = l.length) (v : Nat) (hv : v < n) : qw 1300000000 (lf l k x v) := by
  have m := hn.m
  exact qw_mono (qw_sub (hk v (by omega)) (qw_dlM hx hl v _ (Nat.le_refl _))) (by omega)
theorem shipQ_mk1 (seen : List Bool) : SV.agg [.val (.bool true), .ro [], .ro [], .ro (seen.map bov), .val (.bool false), .ro [], .val (.bool false), .ro []] = shipQ ⟨true, [], [], seen, 0⟩ := by
  have e : (rsv 0).cells = [.val (.bool false), .ro [], .val (.bool false), .ro []] := by rw [← rsv0]; rfl
  unfold shipQ
  simp only [e]; rfl
theorem lget_lf {n : Nat} {l : List Arc} {k x : List Rat} {v : Nat} (h : v < n) : lget ((lefts n k l x l.length).map rsv) v = rsv (lf l k x v) := by
  rw [lget_r (by simpa using h), gt_lefts h]; rfl
theorem lefts_push {n : Nat} {l : List Arc} {k x y : List Rat} {s t : Nat} {bh : List Hop} {seen : List Bool} {most0 m : Rat} {b : Bool} (p : Pushed n l x s t bh seen most0 b y m) (hst : s ≠ t) : ((lefts n k l x l.length).set s (lf l k x s - m)).set t (lf l k x t + m) = lefts n k l y l.length := by
  refine ext_gt' (by simp) fun v hv => ?_
  have hv : v < n := by simpa using hv
  have e := lf_push (k := k) p v
  have e1 : gt (lefts n k l y l.length) v = lf l k y v := gt_lefts hv
  have e2 : gt (lefts n k l x l.length) v = lf l k x v := gt_lefts hv
  rw [gt_set (by simpa using hv), gt_set (by simpa using hv), e1, e, e2]
  split
  · rename_i c1
    subst c1
    rw [if_neg (fun q => hst q.symm), if_pos rfl]; grind
  · rename_i c1
    split
    · rename_i c2
      subst c2
      rw [if_pos rfl, if_neg hst]; grind
    · rename_i c2
      rw [if_neg (fun q => c2 q.symm), if_neg (fun q => c1 q.symm)]; grind
theorem IsD.mul {D E : Nat} {a b : Rat} (h : IsD D a) (h' : IsD E b) : IsD (D * E) (a * b) := by
  obtain ⟨z, e⟩ := h
  obtain ⟨w, f⟩ := h'
  refine ⟨z * w, ?_⟩
  rw [Rat.intCast_mul, ← e, ← f, Rat.natCast_mul]; grind
def cmx (l : List Arc) : Nat → Rat
  | 0 => 0
  | i + 1 => cmx l i + ab (gt l i).cost * (gt l i).cap
theorem mul_ab {c x u : Rat} (h0 : 0 ≤ x) (h1 : x ≤ u) : c * x ≤ ab c * u ∧ -(ab c * u) ≤ c * x := by
  have a1 := Rat.mul_le_mul_of_nonneg_left h1 (ab_nn c)
  have a2 := Rat.mul_le_mul_of_nonneg_right (ab_le c).1 h0
  have a3 := Rat.mul_le_mul_of_nonneg_right (ab_le c).2 h0
  have a4 : -c * x = -(c * x) := by grind
  rw [a4] at a3
  constructor <;> grind
theorem costv_le {l : List Arc} {x : List Rat} (h : Within l x) : ∀ i, i ≤ l.length → costv l x i ≤ cmx l i ∧ -(cmx l i) ≤ costv l x i
  | 0, _ => by simp only [costv, cmx]; constructor <;> grind
  | i + 1, hi => by
    obtain ⟨a, b⟩ := costv_le h i (by omega)
    obtain ⟨c, d⟩ := h.a i (by omega)
    obtain ⟨e, f⟩ := mul_ab (c := (gt l i).cost) c d
    simp only [costv, cmx]
    constructor <;> grind
theorem qw_cmx {l : List Arc} (hw : ArcW l) : ∀ i, i ≤ l.length → qw (1 + 4401 * i) (cmx l i)
  | 0, _ => qw_zero _ (by omega)
  | i + 1, h => qw_mono (qw_add (qw_cmx hw i (by omega)) (qw_mul (qw_ab (hw.cost i (by omega))) (hw.cap i (by omega)) (by omega))) (by omega)
theorem IsD.costv {l : List Arc} {x : List Rat} {D : Nat} (h : ∀ i, i < l.length → IsD D (gt x i)) : ∀ i, i ≤ l.length → IsD (Dc l * D) (Ne.costv l x i)
  | 0, _ => IsD.zero
  | i + 1, hi => (IsD.costv h i (by omega)).add ((Dc_cost (by omega)).mul (h i (by omega)))
theorem qw_cost {n : Nat} {l : List Arc} {k x : List Rat} (a : Chp n l k (DD l k) x) (hn : Net n l) (hw : ArcW l) (hk : Wd 2200 k) (hkl : k.length = n) : Proofs.qw 9000000 (Ne.costv l x l.length) := by
  have n2 := hn.n2
  have m := hn.m
  obtain ⟨b1, b2⟩ := costv_le a.w l.length (Nat.le_refl _)
  have w1 : fw ((1 + 2200 * l.length) + ((1 + 2200 * l.length) + (1 + 2200 * k.length))) ((Dc l * DD l k : Nat) : Int) := by
    have : ((Dc l * DD l k : Nat) : Int) = (Dc l : Int) * (DD l k : Int) := by push_cast; rfl
    rw [this]; exact fw_mul (Dc_fw hw) (DD_fw hw hk)
  exact qw_mono ((IsD.costv a.i l.length (Nat.le_refl _)).qwA (Nat.mul_ne_zero (Dc_pos l) (DD_pos l k)) b2 b1 (qw_cmx hw _ (Nat.le_refl _)).1 w1 (by omega)) (by omega)
def memX (n : Nat) (l : List Arc) (k x : List Rat) : Tab := [none, flowE x, restE n l 1, some ⟨4, (lefts n k l x l.length).map rsv, false⟩]
def st1 (n : Nat) (l : List Arc) (k x : List Rat) (s : Int) : St := ⟨207, [(0, iv n), (1, .ro (l.map arcQ)), (12, .ptr 2 0 0), (13, .view 3 0 n), (16, iv s)], memX n l k x⟩
def st3 (n : Nat) (l : List Arc) (k x : List Rat) (bh : List Hop) (far : List Rat) (seen : List Bool) (s t : Int) : St := ⟨207, [(0, iv n), (1, .ro (l.map arcQ)), (12, .ptr 2 0 0), (13, .view 3 0 n), (16, iv s), (18, .ro (bh.map hopV)), (19, .ro (far.map rsv)), (20, .ro (seen.map bov)), (21, iv t)], memX n l k x⟩
def I1 (n : Nat) (l : List Arc) (k x : List Rat) (st : St) : Prop := (st = st1 n l k x (-1) ∧ ∀ u, u < n → ¬ 0 < lf l k x u) ∨ ∃ s : Nat, s < n ∧ 0 < lf l k x s ∧ st = st1 n l k x s
def I3 (n : Nat) (l : List Arc) (k x : List Rat) (π : Nat → Rat) (s : Nat) (st : St) : Prop := ∃ (bh : List Hop) (far : List Rat) (seen : List Bool), Rx n l x (Dc l) π (π s) (seen1 n s) bh far seen ∧ Near l x far seen ∧
  ((st = st3 n l k x bh far seen s (-1) ∧ ∀ u, u < n → gt seen u = true → ¬ lf l k x u < 0) ∨ ∃ t : Nat, t < n ∧ gt seen t = true ∧ lf l k x t < 0 ∧ st = st3 n l k x bh far seen s t)
end Go.Fl
namespace Go.Proofs
open Go.Sv Go Go.Tb Go.Pl Go.Ut Go.Ne Go.Fl
noncomputable def cheapestRound : Code := match dropC 8 cheapestBody with
  | .block _ (.loop (.block _ c)) => c
  | _ => .skip
abbrev roundQ (C : Ctx) (n : Nat) (l : List Arc) (k x : List Rat) : Post := blk 5 (thn (fun st' => ∃ y, Chp n l k (DD l k) y ∧ leftM n l k (DD l k) y < leftM n l k (DD l k) x ∧ Le C st' (mainSt n l k y)) (blk 4 (cheapestQ n l k)))
set_option maxRecDepth 10000 in
theorem round1 (n : Nat) (l : List Arc) (hn : Net n l) (hw : ArcW l) (k : List Rat) (hk : Wd 2200 k) (hkl : k.length = n) (x : List Rat) (a : Chp n l k (DD l k) x) {C : Ctx} (hC : C.fx = [])
    (h : ∀ st, I1 n l k x st → CodeJ Tryz.prog C (dropC 2 cheapestRound) st (roundQ C n l k x)) : CodeJ Tryz.prog C cheapestRound (mainSt n l k x) (roundQ C n l k x) := by
  have n2 := hn.n2
  have wx := a.qx hn hw hk hkl
  refine CodeJ.cutAt 2 (I1 n l k x) ?_ h
  simp only [cheapestRound, cheapestBody, Tryz.f131, Option.getD_some, dropC_succ, dropC_zero, takeC_succ, takeC_zero, mainSt, restE, flowE]
  simp
  refine CodeJ.loopL (ι := Nat) (fun v => ⟨207, [(0, iv n), (1, .ro (l.map arcQ)), (12, .ptr 2 0 0), (13, .view 3 0 n), (16, iv (-1)), (106, iv n), (107, iv v)], memX n l k x⟩)
    (fun v => v ≤ n ∧ ∀ u, u < v → ¬ 0 < lf l k x u) (fun v => n - v) 0 (by simp) ?_ ?_
  · simp [leS, hC, memX, restE, flowE]
  · rintro v ⟨hv, hu⟩
    simp only [memX, restE, flowE]
    by_cases hvn : v < n
    · have lv := lget_lf (l := l) (k := k) (x := x) hvn
      simp (disch := omega) [hvn, lv]
      repeat (refine And.intro (by omega) ?_)
      refine callS (sgnQ (lf l k x v)) (by simp) ?_
      by_cases c : 0 < lf l k x v
      · simp (disch := omega) [c]
        repeat (refine And.intro (by omega) ?_)
        exact ⟨_, .inr ⟨v, hvn, c, rfl⟩, by simp [leS, st1, memX, restE, flowE]⟩
      · simp (disch := omega) [c, w64]
        repeat (refine And.intro (by omega) ?_)
        exact ⟨v + 1, ⟨by omega, step_lt hu c⟩, by omega, Le.syn (by simp (disch := omega) [leS, hC, w64, memX, restE, flowE])⟩
    · obtain rfl : n = v := by omega
      simp
      repeat (refine And.intro (by omega) ?_)
      exact ⟨_, .inl ⟨rfl, hu⟩, by simp [leS, st1, memX, restE, flowE]⟩
set_option maxRecDepth 10000 in
/-- nothing is left above nought: the plan -/
theorem round2 (n : Nat) (l : List Arc) (hn : Net n l) (hw : ArcW l) (k : List Rat) (hk : Wd 2200 k) (hkl : k.length = n) (hs : accS k n = 0) (x : List Rat) (a : Chp n l k (DD l k) x) (hu : ∀ u, u < n → ¬ 0 < lf l k x u) {C : Ctx} :
    CodeJ Tryz.prog C (dropC 2 cheapestRound) (st1 n l k x (-1)) (roundQ C n l k x) := by
  have n2 := hn.n2
  have m := hn.m
  have wx := a.qx hn hw hk hkl
  have hxl := a.w.n
  obtain ⟨π, hp⟩ := a.pot
  have gD := qDone_ok n l x hn hw hxl (fun i hi => qok_of (hw.cap i hi) (by omega)) wx π hp
  simp only [restT, restE, flowE] at gD
  simp only [cheapestRound, cheapestBody, Tryz.f131, Option.getD_some, dropC_succ, dropC_zero, st1, memX, restE, flowE]
  refine CodeJ.go ?_
  simp
  refine callT gD [2, 1] (by simp) (by simp) (by simp) (by simp) (by simp) ?_
  rintro T y ⟨rfl, far, seen, rfl, hf, hse, nr, wf⟩
  simp
  have d := none_left hn (by rw [accS_ss n (Nat.le_refl _)]; exact hs) hu
  refine ⟨_, Sub_self _ _ (by simp), ⟨false, x, far, [], costv l x l.length⟩, rfl, ?_, by simp only; omega, by simp only; omega, by simp, wx, wf, ?_⟩
  · unfold ShipOK
    rw [if_neg (by simp)]
    exact ⟨a.w, hf, d, fun i hi => no_slack hn hse nr _ rfl rfl i hi, rfl⟩
  · exact qw_cost a hn hw hk hkl
set_option maxRecDepth 10000 in
/-- from a node with more: how near the others are -/
theorem round3 (n : Nat) (l : List Arc) (hn : Net n l) (hw : ArcW l) (k : List Rat) (hk : Wd 2200 k) (hkl : k.length = n) (x : List Rat) (a : Chp n l k (DD l k) x) (π : Nat → Rat) (hp : PotOK l x π) (s : Nat) (hs : s < n) {C : Ctx} (hC : C.fx = [])
    (h : ∀ st, I3 n l k x π s st → CodeJ Tryz.prog C (dropC 6 cheapestRound) st (roundQ C n l k x)) : CodeJ Tryz.prog C (dropC 2 cheapestRound) (st1 n l k x s) (roundQ C n l k x) := by
  have n2 := hn.n2
  have m := hn.m
  have wx := a.qx hn hw hk hkl
  have hxl := a.w.n
  have gC := qCheap_ok n l x hn hw hxl (fun i hi => qok_of (hw.cap i hi) (by omega)) (fun i hi => qok_of (wx i (by omega)) (by omega)) π hp s hs
  simp only [restT, restE, flowE] at gC
  simp only [cheapestRound, cheapestBody, Tryz.f131, Option.getD_some, dropC_succ, dropC_zero] at h ⊢
  refine CodeJ.cutAt 4 (I3 n l k x π s) ?_ h
  simp only [takeC_succ, takeC_zero, st1, memX, restE, flowE]
  have c0 : ¬ (s : Int) < 0 := by omega
  simp [c0]
  refine callT gC [2, 1] (by simp) (by simp) (by simp) (by simp) (by simp) ?_
  rintro T y ⟨rfl, bh, far, seen, rfl, r, nr⟩
  have fl := r.fl
  have sl := r.sl
  simp [restT, restE, flowE]
  refine CodeJ.loopL (ι := Nat × Nat) (fun ⟨v, t⟩ => ⟨207, [(0, iv n), (1, .ro (l.map arcQ)), (12, .ptr 2 0 0), (13, .view 3 0 n), (16, iv s), (18, .ro (bh.map hopV)), (19, .ro (far.map rsv)), (20, .ro (seen.map bov)), (21, iv ((t : Int) - 1)), (130, iv n), (131, iv v)], memX n l k x⟩)
    (fun ⟨v, t⟩ => v ≤ n ∧ (t = 0 → ∀ u, u < v → gt seen u = true → ¬ lf l k x u < 0) ∧ (t ≠ 0 → t - 1 < n ∧ gt seen (t - 1) = true ∧ lf l k x (t - 1) < 0)) (fun ⟨v, t⟩ => n - v) (0, 0) (by simp) ?_ ?_
  · simp [leS, hC, memX, restE, flowE]
  · rintro ⟨v, t⟩ ⟨hv, h0, h1⟩
    simp only [memX, restE, flowE]
    by_cases hvn : v < n
    · have lv := lget_lf (l := l) (k := k) (x := x) hvn
      have ls := lget_bov (l := seen) (i := v) (by omega)
      have stp : ¬ (gt seen v = true ∧ lf l k x v < 0) → (t = 0 → ∀ u, u < v + 1 → gt seen u = true → ¬ lf l k x u < 0) := fun q e u hu a b => by
        by_cases e2 : u = v
        · subst e2; exact q ⟨a, b⟩
        · exact h0 e u (by omega) a b
      cases b1 : gt seen v with
      | false =>
        rw [b1] at ls
        simp (disch := omega) [hvn]
        repeat (refine And.intro (by omega) ?_)
        refine CodeJ.draw (.qs [0, 1, 2, 3, 4, 5, 6, 7, 8] <| .l 9 [] <| .qs [10, 11, 12, 13, 14, 15, 16, 17, 18, 19, 20, 21, 22, 23] <| .l 24 [] <| .qs [25, 26, 27] <| .nil) (by kernel_rfl) (by kernel_rfl) (by simp) ?_
        simp (disch := omega) [ls, sl, w64]
        repeat (refine And.intro (by omega) ?_)
        exact ⟨v + 1, t, ⟨by omega, stp (fun q => by rw [b1] at q; cases q.1), h1⟩, by omega, Le.syn (by simp (disch := omega) [leS, hC, w64, memX, restE, flowE])⟩
      | true =>
        rw [b1] at ls
        by_cases c1 : lf l k x v < 0
        · by_cases c2 : t = 0
          · subst c2
            simp (disch := omega) [hvn]
            repeat (refine And.intro (by omega) ?_)
            refine CodeJ.draw (.qs [0, 1, 2, 3, 4, 5, 6, 7, 8] <| .l 9 [] <| .qs [10, 11, 12, 13, 14, 15, 16, 17, 18, 19, 20, 21, 22, 23] <| .l 24 [] <| .qs [25, 26, 27] <| .nil) (by kernel_rfl) (by kernel_rfl) (by simp) ?_
            simp (disch := omega) [ls, sl, lv]
            repeat (refine And.intro (by omega) ?_)
            refine callS (sgnQ (lf l k x v)) (by simp) ?_
            simp (disch := omega) [c1, w64]
            repeat (refine And.intro (by omega) ?_)
            exact ⟨v + 1, v + 1, ⟨by omega, fun q => by omega, fun _ => ⟨by omega, by simpa using b1, by simpa using c1⟩⟩, by omega, Le.syn (by simp (disch := omega) [leS, hC, w64, memX, restE, flowE])⟩
          · obtain ⟨t1, rfl⟩ : ∃ q, t = q + 1 := ⟨t - 1, by omega⟩
            obtain ⟨g1, g2, g3⟩ := h1 c2
            simp only [Nat.add_sub_cancel] at g1 g2 g3
            have d1 := lget_r (l := far) (i := v) (by omega)
            have d2 := lget_r (l := far) (i := t1) (by omega)
            have w1 := r.qw hn hw hvn b1
            have w2 := r.qw hn hw g1 g2
            have et : ((t1 + 1 : Nat) : Int) - 1 = t1 := by omega
            have c4 : ¬ (t1 : Int) < 0 := by omega
            simp only [et]
            simp (disch := omega) [hvn]
            repeat (refine And.intro (by omega) ?_)
            refine CodeJ.draw (.qs [0, 1, 2, 3, 4, 5, 6, 7, 8] <| .l 9 [] <| .qs [10, 11, 12, 13, 14, 15, 16, 17, 18, 19, 20, 21, 22, 23] <| .l 24 [] <| .qs [25, 26, 27] <| .nil) (by kernel_rfl) (by kernel_rfl) (by simp) ?_
            simp (disch := omega) [ls, sl, lv]
            repeat (refine And.intro (by omega) ?_)
            refine callS (sgnQ (lf l k x v)) (by simp) ?_
            simp (disch := omega) [c1, c4, d1, d2, fl]
            repeat (refine And.intro (by omega) ?_)
            refine callS (cmpQ _ _ (qok_of w1 (by omega)) (qok_of w2 (by omega))) (by simp) ?_
            by_cases c3 : gt far v < gt far t1
            · simp (disch := omega) [c3, w64]
              repeat (refine And.intro (by omega) ?_)
              exact ⟨v + 1, v + 1, ⟨by omega, fun q => by omega, fun _ => ⟨by omega, by simpa using b1, by simpa using c1⟩⟩, by omega, Le.syn (by simp (disch := omega) [leS, hC, w64, memX, restE, flowE])⟩
            · simp (disch := omega) [c3, w64]
              repeat (refine And.intro (by omega) ?_)
              exact ⟨v + 1, t1 + 1, ⟨by omega, fun q => by omega, h1⟩, by omega, Le.syn (by simp (disch := omega) [leS, hC, w64, memX, restE, flowE])⟩
        · simp (disch := omega) [hvn]
          repeat (refine And.intro (by omega) ?_)
          refine CodeJ.draw (.qs [0, 1, 2, 3, 4, 5, 6, 7, 8] <| .l 9 [] <| .qs [10, 11, 12, 13, 14, 15, 16, 17, 18, 19, 20, 21, 22, 23] <| .l 24 [] <| .qs [25, 26, 27] <| .nil) (by kernel_rfl) (by kernel_rfl) (by simp) ?_
          simp (disch := omega) [ls, sl, lv]
          repeat (refine And.intro (by omega) ?_)
          refine callS (sgnQ (lf l k x v)) (by simp) ?_
          simp (disch := omega) [c1, w64]
          repeat (refine And.intro (by omega) ?_)
          exact ⟨v + 1, t, ⟨by omega, stp (fun q => c1 q.2), h1⟩, by omega, Le.syn (by simp (disch := omega) [leS, hC, w64, memX, restE, flowE])⟩
    · obtain rfl : n = v := by omega
      simp
      repeat (refine And.intro (by omega) ?_)
      by_cases c2 : t = 0
      · subst c2
        exact ⟨_, ⟨bh, far, seen, r, nr, .inl ⟨rfl, h0 rfl⟩⟩, by simp [leS, st3, memX, restE, flowE]⟩
      · obtain ⟨t1, rfl⟩ : ∃ q, t = q + 1 := ⟨t - 1, by omega⟩
        obtain ⟨g1, g2, g3⟩ := h1 c2
        exact ⟨_, ⟨bh, far, seen, r, nr, .inr ⟨t1, by simpa using g1, by simpa using g2, by simpa using g3, rfl⟩⟩, by simp [leS, st3, memX, restE, flowE]⟩
set_option maxRecDepth 10000 in
/-- nobody near wants anything: nodes that have more than leaves them -/
theorem round4 (n : Nat) (l : List Arc) (hn : Net n l) (k x : List Rat) (a : Chp n l k (DD l k) x) (s : Nat) (hs : s < n) (h0 : 0 < lf l k x s) {π : Nat → Rat} {c : Rat} (bh : List Hop) (far : List Rat) (seen : List Bool) (r : Rx n l x (Dc l) π c (seen1 n s) bh far seen) (nr : Near l x far seen)
    (hu : ∀ u, u < n → gt seen u = true → ¬ lf l k x u < 0) {C : Ctx} : CodeJ Tryz.prog C (dropC 6 cheapestRound) (st3 n l k x bh far seen s (-1)) (roundQ C n l k x) := by
  have n2 := hn.n2
  have sl := r.sl
  have hss : gt seen s = true := r.sub s hs (by unfold seen1; rw [gt_set (by simpa using hs), if_pos rfl])
  simp only [cheapestRound, cheapestBody, Tryz.f131, Option.getD_some, dropC_succ, dropC_zero, st3, memX, restE, flowE]
  refine CodeJ.seqI (CodeJ.seqI (CodeJ.go ?_))
  simp
  refine CodeJ.condI true (by simp) (fun _ => ?_) (fun q => by cases q)
  refine CodeJ.seqI (CodeJ.go ?_)
  simp
  refine CodeJ.le (Le.nl _) ?_
  simp [nlS, nlL_rsvs, nlV_rsv, shipQ_mk1]
  refine CodeJ.frz 4 rfl (by simp) ?_
  refine CodeJ.go ?_
  simp [frzS]
  refine ⟨_, Sub_self _ _ (by simp), ⟨true, [], [], seen, 0⟩, rfl, ?_, by simp, by simp, by simp only; omega, fun i hi => by simp at hi, fun i hi => by simp at hi, qw_zero (by omega)⟩
  unfold ShipOK
  rw [if_pos (by simp)]
  exact ⟨sl, hoff hn a.w (fun h a b c => (nr h a b c).1) hs hss h0 (fun v hv q => Rat.not_lt.1 (hu v hv q))⟩
set_option maxRecDepth 10000 in
/-- as much as can be is sent on -/
theorem round5 (n : Nat) (l : List Arc) (hn : Net n l) (hw : ArcW l) (k : List Rat) (hk : Wd 2200 k) (hkl : k.length = n) (x : List Rat) (a : Chp n l k (DD l k) x) (s t : Nat) (hs : s < n) (ht : t < n) (h0 : 0 < lf l k x s) (h1 : lf l k x t < 0) {π : Nat → Rat} (hp : PotOK l x π) (bh : List Hop) (far : List Rat) (seen : List Bool)
    (r : Rx n l x (Dc l) π (π s) (seen1 n s) bh far seen) (nr : Near l x far seen) (hts : gt seen t = true) {C : Ctx} (hC : C.fx = []) : CodeJ Tryz.prog C (dropC 6 cheapestRound) (st3 n l k x bh far seen s t) (roundQ C n l k x) := by
  have n2 := hn.n2
  have m := hn.m
  have wx := a.qx hn hw hk hkl
  have hxl := a.w.n
  have hst : s ≠ t := fun e => by rw [e] at h0; grind
  have sl := r.sl
  have se : ∀ v, v < n → gt (seen1 n s) v = true → v = s := fun v hv q => seen1_eq hv q
  obtain ⟨rk, hrk⟩ := r.rk se
  have l1 := lget_lf (l := l) (k := k) (x := x) hs
  have l2 := lget_lf (l := l) (k := k) (x := x) ht
  have w1 := qw_lf hn hk hkl wx hxl s hs
  have w2 := qw_lf hn hk hkl wx hxl t ht
  have gP := fun (q : Rat) (w : qok q) (p : 0 < q) => qPush_ok n l x hn a.w (fun i hi => qok_of (hw.cap i hi) (by omega)) (fun i hi => qok_of (wx i (by omega)) (by omega)) (fun h hh => qok_room hw (fun i hi => wx i (by omega)) h hh) s t hs ht hst bh r.bl seen rk hrk hts q true w (fun _ => p)
  simp only [restT, restE, flowE] at gP
  have c0 : ¬ (t : Int) < 0 := by omega
  have fin : ∀ (q : Rat) (z : List Rat) (u : Rat), IsD (DD l k) q → q ≤ lf l k x s → q ≤ -(lf l k x t) → Pushed n l x s t bh seen q true z u → Chp n l k (DD l k) z ∧ leftM n l k (DD l k) z < leftM n l k (DD l k) x := fun q z u hd q1 q2 p => by
    have ch := a.step hn DD_cap (fun v hv => DD_k (by omega)) hp r nr se hd p
    have pl := p.le rfl
    exact ⟨ch, left_lt (DD_pos l k) p hs hst a ch (fun v hv => DD_k (by omega)) (Rat.le_trans pl q1) (Rat.le_trans pl q2)⟩
  have i1 := IsD.lf a (fun v hv => DD_k (by omega)) s hs
  have i2 := (IsD.lf a (fun v hv => DD_k (by omega)) t ht).neg
  simp only [cheapestRound, cheapestBody, Tryz.f131, Option.getD_some, dropC_succ, dropC_zero, st3, memX, restE, flowE]
  refine CodeJ.go ?_
  simp (disch := omega) [c0, l1, l2]
  repeat (refine And.intro (by omega) ?_)
  refine callS (qNeg_ok (lf l k x t)) (by simp) ?_
  simp
  repeat (refine And.intro (by omega) ?_)
  refine callS (cmpQ _ _ (qok_of (qw_neg w2) (by omega)) (qok_of w1 (by omega))) (by simp) ?_
  simp
  repeat (refine And.intro (by omega) ?_)
  refine ⟨fun c => ?_, fun c => ?_⟩
  · refine callT (gP _ (qok_of (qw_neg w2) (by omega)) (by grind)) [2, 1] (by simp) (by simp) (by simp) (by simp) (by simp) ?_
    rintro T y ⟨z, u, rfl, rfl, hq, p⟩
    obtain ⟨ch, lt⟩ := fin _ z u i2 (by grind) (Rat.le_refl) p
    have lp := lefts_push (k := k) p hst
    simp
    refine CodeJ.draw (.qs [0, 1, 2, 3, 4, 5, 6, 7, 8, 10, 11, 12, 13, 14] <| .l 9 [] <| .l 15 [] <| .qs [16] <| .l 17 [3] <| .qs [18] <| .l 19 [3] <| .nil) (by kernel_rfl) (by kernel_rfl) (by simp) ?_
    simp (disch := omega) [l1, l2]
    repeat (refine And.intro (by omega) ?_)
    refine callS (qSub_ok _ _ (qok_of w1 (by omega)) hq) (by simp) ?_
    simp (disch := omega) [l1, l2]
    repeat (refine And.intro (by omega) ?_)
    refine callS (qAdd_ok _ _ (qok_of w2 (by omega)) hq) (by simp) ?_
    have l3 : lget (((lefts n k l x l.length).set s (lf l k x s - u)).map rsv) t = rsv (lf l k x t) := by
      rw [lget_r (by simpa using ht), gt_set (by simpa using ht), if_neg hst, gt_lefts ht]; rfl
    simp (disch := omega) [l1, l2, l3, lset_eq, r_set, lp, -List.map_set]
    repeat (refine And.intro (by omega) ?_)
    exact ⟨z, ch, lt, Le.syn (by simp (disch := omega) [leS, hC, w64, mainSt, restE, flowE])⟩
  · refine callT (gP _ (qok_of w1 (by omega)) (h0)) [2, 1] (by simp) (by simp) (by simp) (by simp) (by simp) ?_
    rintro T y ⟨z, u, rfl, rfl, hq, p⟩
    obtain ⟨ch, lt⟩ := fin _ z u i1 (Rat.le_refl) (by grind) p
    have lp := lefts_push (k := k) p hst
    simp
    refine CodeJ.draw (.qs [0, 1, 2, 3, 4, 5, 6, 7, 8, 10, 11, 12, 13, 14] <| .l 9 [] <| .l 15 [] <| .qs [16] <| .l 17 [3] <| .qs [18] <| .l 19 [3] <| .nil) (by kernel_rfl) (by kernel_rfl) (by simp) ?_
    simp (disch := omega) [l1, l2]
    repeat (refine And.intro (by omega) ?_)
    refine callS (qSub_ok _ _ (qok_of w1 (by omega)) hq) (by simp) ?_
    simp (disch := omega) [l1, l2]
    repeat (refine And.intro (by omega) ?_)
    refine callS (qAdd_ok _ _ (qok_of w2 (by omega)) hq) (by simp) ?_
    have l3 : lget (((lefts n k l x l.length).set s (lf l k x s - u)).map rsv) t = rsv (lf l k x t) := by
      rw [lget_r (by simpa using ht), gt_set (by simpa using ht), if_neg hst, gt_lefts ht]; rfl
    simp (disch := omega) [l1, l2, l3, lset_eq, r_set, lp, -List.map_set]
    repeat (refine And.intro (by omega) ?_)
    exact ⟨z, ch, lt, Le.syn (by simp (disch := omega) [leS, hC, w64, mainSt, restE, flowE])⟩
theorem qCheapest_ok (n : Nat) (l : List Arc) (hc : netC n l = 0) (hw : ArcW l) (k : List Rat) (hk : Wd 2200 k) (hkl : k.length = n) (hs : accS k n = 0) : PureC Tryz.prog 131 [iv n, .ro (l.map arcQ), .ro (k.map rsv)] (CheapestPhi n l k) := by
  have hn : Net n l := by obtain ⟨m, e, h⟩ := net_of hc; obtain rfl : m = n := by omega
                          exact h
  refine pure_enterJ Tryz.func131 rfl (by simp) (fun C hC => ?_)
  refine qCheapestA_ok n l hc hw k hk hkl hs hC ?_
  have h0 : Chp n l k (DD l k) (first l) := ⟨first_within (net_cap hc), ⟨_, first_pot⟩, fun i hi => by
    rw [gt_first hi]; split
    · exact DD_cap i hi
    · exact IsD.zero⟩
  refine CodeJ.blockI ?_
  refine CodeJ.loopC (ι := List Rat) (mainSt n l k) (Chp n l k (DD l k)) (leftM n l k (DD l k)) (first l) h0 (by simp [leS, mainSt, restE, flowE]) ?_
  intro x a
  refine CodeJ.blockI ?_
  show CodeJ _ _ cheapestRound _ (roundQ C n l k x)
  refine round1 n l hn hw k hk hkl x a hC ?_
  rintro st (⟨rfl, hu⟩ | ⟨s, hs', h1, rfl⟩)
  · exact round2 n l hn hw k hk hkl hs x a hu
  · obtain ⟨π, hp⟩ := a.pot
    refine round3 n l hn hw k hk hkl x a π hp s hs' hC ?_
    rintro st ⟨bh, far, seen, r, nr, (⟨rfl, hu⟩ | ⟨t, ht, q1, q2, rfl⟩)⟩
    · exact round4 n l hn k x a s hs' h1 bh far seen r nr hu
    · exact round5 n l hn hw k hk hkl x a s t hs' ht h1 q2 hp bh far seen r nr q1 hC
end Go.Proofs
namespace Go.Sv
open Go
/-- a call where the world's errors are as they should be, of what stands in entries -/
theorem callES {P : Program} {C : Ctx} {f : FuncId} {args args' : List SV} {Φ : SV → Prop} {M : Tab} {W : Option (List Nat)} {K : Tab → List Nat → SV → Prop} (h : PureE P f args' Φ) (hE : EOK C.w0) (hX : C.X = []) (hs : SubL M args args') (hk : ∀ x, Φ x → K (fzL (SV.ksL args) M) [] x) : CallJ P C f args M W K := by
  intro β H w vals hd hW
  obtain ⟨H1, h1, h2, h3⟩ := fzL_ok (SV.ksL args) hW (SubL_pure hs)
  have hd' := SubL_denT h2 hs ⟨fun k e he hk => by
    obtain ⟨e', g1, g2, -, g4⟩ := h3 k e he
    exact ⟨e', g1, g2, g4 (.inr hk)⟩⟩ (DenT.mono h1 _ _ (fun _ _ _ h => h) hd)
  have hEw : EOK w := hE.frame fun b hb => hW.frame b hb (by rw [hX]; simp)
  refine Calls.mono (h H1 w vals h2.invH hEw hd') ?_
  rintro e w' ⟨H', v, x, rfl, g1, g2, g3, g4, g5, g6⟩
  exact ⟨β, H', _, v, x, [], rfl, Den.up g1 (fun k d hd => by simp [noB] at hd) (fun _ _ h => h), h2.after g6 g3 g4 g5, fun _ _ _ h => h, fun b cs hb => g3 b cs (h1 b cs hb), hk x g2, g6.size, fun ks _ => ⟨rfl, fun b hb _ => g6.block b hb⟩⟩
end Go.Sv
namespace Go.Fl
open Go Go.Sv Go.Pl Go.Proofs Go.Tb Go.Ut Go.Ne
theorem okl_ofH {k : Nat} {x : List Rat} (h : Wd k x) (hk : k ≤ 10000000000) (hl : x.length ≤ 1048576) : OKl x := ⟨hl, fun q hq => by
  obtain ⟨i, hi, rfl⟩ := List.getElem_of_mem hq
  rw [gt_get hi]; exact qok_of (h i hi) hk⟩
structure ShipK (p : Ship) : Prop where
  fn : p.flow.length ≤ 1048576
  pn : p.prices.length ≤ 1048576
  sn : p.side.length ≤ 1048576
  wf : Wd 2000000 p.flow
  wp : Wd 1400000 p.prices
  wc : qw 9000000 p.cost
end Go.Fl
namespace Go.Proofs
open Go.Sv Go Go.Tb Go.Pl Go.Ut Go.Ne Go.Fl
set_option maxRecDepth 10000 in
theorem rSums_ok (k : List Rat) (hk : Wd 2200 k) (hl : k.length ≤ 1048576) : PureF Tryz.prog 132 [.ro (k.map qsv)] (.val (.bool (decide (accS k k.length = 0)))) := by
  refine pure_enter Tryz.func132 rfl (by simp) (fun C hC => ?_)
  simp
  refine callS (zeroP) (by simp) ?_
  simp
  refine CodeJ.loopL (ι := Nat) (fun i => ⟨21, [(0, .ro (k.map qsv)), (3, .ptr 0 0 0), (4, iv i)], [some ⟨4, [qsv (accS k i)], false⟩]⟩)
    (fun i => i ≤ k.length) (fun i => k.length - i) 0 (by simp) ?_ ?_
  · simp [leS, hC, accS]
  · rintro i hi
    by_cases hlt : i < k.length
    · have q1 := qw_accS hk i hi
      have q2 := hk i hlt
      have lk := lget_q hlt
      simp (disch := omega) [hlt]
      repeat (refine And.intro (by omega) ?_)
      refine CodeJ.draw (.qs [0, 1, 2, 3, 4] <| .l 5 [] <| .l 6 [0] <| .nil) (by kernel_rfl) (by kernel_rfl) (by simp) ?_
      simp (disch := omega) [hlt, lk]
      repeat (refine And.intro (by omega) ?_)
      refine callS (pAdd_ok _ _ (qok_of q1 (by omega)) (qok_of q2 (by omega))) (by simp) ?_
      simp (disch := omega) [w64]
      repeat (refine And.intro (by omega) ?_)
      exact ⟨i + 1, by omega, by omega, Le.syn (by simp (disch := omega) [leS, hC, w64, accS])⟩
    · obtain rfl : i = k.length := by omega
      simp
      repeat (refine And.intro (by omega) ?_)
      refine callS (sgnP (accS k k.length)) (by simp) ?_
      simp
set_option maxRecDepth 10000 in
theorem rShipping_ok (p : Ship) (h1 : p.flow.length ≤ 300) (h2 : p.prices.length ≤ 60) (wf : Wd 2000000 p.flow) (wp : Wd 1400000 p.prices) (wc : qw 9000000 p.cost) :
    PureF Tryz.prog 133 [.rop (shipQ p) 0] (.tup [shipP p, .val (.bool true)]) := by
  refine pure_enter Tryz.func133 rfl (by simp) (fun C hC => ?_)
  simp
  refine callS (pTexts_ok p.flow (okl_ofH wf (by omega) (by omega))) (by simp) ?_
  simp
  refine callS (rSaidT_ok p.flow (by omega) (fun i hi => qw_mono (wf i hi) (by omega))) (by simp) ?_
  simp
  refine callS (pTexts_ok p.prices (okl_ofH wp (by omega) (by omega))) (by simp) ?_
  simp
  refine callS (rSaidT_ok p.prices (by omega) (fun i hi => qw_mono (wp i hi) (by omega))) (by simp) ?_
  simp
  refine callS (qText_ok p.cost (qok_of wc (by omega))) (by simp) ?_
  simp
  refine callS (rSaidB_ok p.cost (qw_mono wc (by omega))) (by simp) ?_
  simp [fsv]
  refine CodeJ.draw (.qs [0, 1, 2, 3, 4, 5, 6, 7, 8, 9, 10, 11, 12, 13, 14, 15, 16, 17] <| .q 18 [0] <| .qs [19, 20] <| .l 21 [0] <| .qs [22] <| .nil) (by kernel_rfl) (by kernel_rfl) (by simp) ?_
  simp
  exact Sub_self _ (shipP p) rfl
set_option maxRecDepth 10000 in
theorem rWithinM_ok (l : List Arc) (hw : ArcW l) (flow : List Rat) (hf : Wd 2000000 flow) (hn : flow.length ≤ 1048576) : PureF Tryz.prog 189 [.ro (l.map arcP), .ro (flow.map qsv)] (.val (.bool (withB l flow))) := by
  have hl := hw.n
  refine pure_enter Tryz.func189 rfl (by simp) (fun C hC => ?_)
  simp
  by_cases h0 : flow.length = l.length
  · refine ⟨fun _ => by omega, fun _ => ?_⟩
    refine CodeJ.loopL (ι := Nat) (fun i => ⟨40, [(0, .ro (l.map arcP)), (1, .ro (flow.map qsv)), (5, iv i)], []⟩)
      (fun i => i ≤ l.length ∧ ∀ k, k < i → 0 ≤ gt flow k ∧ gt flow k ≤ (gt l k).cap) (fun i => l.length - i) 0 ?_ ?_ ?_
    · simp
    · simp [leS, hC]
    · rintro i ⟨hi, hk⟩
      by_cases hlt : i < l.length
      · have q1 := hf i (by omega)
        have q2 := hw.cap i hlt
        simp (disch := omega) [hlt, lget_q]
        repeat (refine And.intro (by omega) ?_)
        refine callS (sgnP (gt flow i)) (by simp) ?_
        simp (disch := omega) [hlt, lget_q]
        repeat (refine And.intro (by omega) ?_)
        refine CodeJ.draw (.qs [0, 1, 2, 3, 4, 5, 6, 7, 8] <| .l 9 [] <| .qs [10] <| .nil) (by kernel_rfl) (by kernel_rfl) (by simp) ?_
        simp (disch := omega) [hlt, lget_q, lget_arcP]
        repeat (refine And.intro (by omega) ?_)
        refine callS (cmpP _ _ (qok_of q1 (by omega)) (qok_of q2 (by omega))) (by simp) ?_
        simp (disch := omega) [w64]
        repeat (refine And.intro (by omega) ?_)
        repeat' (apply And.intro <;> intro _)
        all_goals first | exact withB_no (fun h => by have := h.a i hlt; grind) | exact ⟨i + 1, ⟨by omega, step_lt hk (by grind)⟩, by omega, Le.syn (by simp (disch := omega) [leS, hC, w64])⟩
      · obtain rfl : i = l.length := by omega
        simp [withB_yes ⟨h0, hk⟩]
  · have := withB_no (l := l) (flow := flow) (fun h => h0 h.n)
    rw [this]
    exact ⟨fun _ => rfl, fun _ => by omega⟩
set_option maxRecDepth 10000 in
theorem rLeftM_ok (n : Nat) (l : List Arc) (hn : Net n l) (hw : ArcW l) (flow : List Rat) (hf : Wd 2000000 flow) (hfl : flow.length = l.length) : PureF Tryz.prog 190 [iv n, .ro (l.map arcP), .ro (flow.map qsv)] (.ro ((outs n l flow l.length).map qsv)) := by
  have hl := hw.n
  have n2 := hn.n2
  have m := hn.m
  refine pure_enter Tryz.func190 rfl (by simp) (fun C hC => ?_)
  simp (disch := omega) [w64]
  repeat (refine And.intro (by omega) ?_)
  refine CodeJ.le (Le.nl _) ?_
  simp [nlS, nlL_rep]
  refine CodeJ.loopL (ι := Nat) (fun v => ⟨68, [(0, iv n), (1, .ro (l.map arcP)), (2, .ro (flow.map qsv)), (7, .view 0 0 n), (8, iv v)], [some ⟨4, List.replicate v (qsv 0) ++ List.replicate (n - v) (.agg [.val (.bool false), .ro [], .val (.bool false), .ro []]), false⟩]⟩)
    (fun v => v ≤ n) (fun v => n - v) 0 ?_ ?_ ?_
  · simp
  · simp [leS, hC]
  · rintro v hv
    by_cases hvt : v < n
    · have e1 := lget_fill (A := List.replicate v (qsv 0)) (n := n) (v := v) (z := .agg [.val (.bool false), .ro [], .val (.bool false), .ro []]) (by simp) hvt
      have e2 := lset_fill (A := List.replicate v (qsv 0)) (n := n) (v := v) (z := .agg [.val (.bool false), .ro [], .val (.bool false), .ro []]) (y := qsv 0) (by simp) hvt
      simp (disch := omega) [hvt]
      repeat (refine And.intro (by omega) ?_)
      refine callS (zeroP) (by simp) ?_
      simp (disch := omega) [hvt, e1, e2, w64]
      repeat (refine And.intro (by omega) ?_)
      exact ⟨v + 1, by omega, by omega, Le.syn (by simp (disch := omega) [leS, hC, w64, List.replicate_succ' (n := v), ltL_rep])⟩
    · obtain rfl : n = v := by omega
      simp (disch := omega) [List.append_nil]
      repeat (refine And.intro (by omega) ?_)
      refine CodeJ.loopL (ι := Nat) (fun i => ⟨68, [(1, .ro (l.map arcP)), (2, .ro (flow.map qsv)), (7, .view 0 0 n), (9, iv i)], [some ⟨4, (outs n l flow i).map qsv, false⟩]⟩)
        (fun i => i ≤ l.length) (fun i => l.length - i) 0 ?_ ?_ ?_
      · simp
      · simp [leS, hC, outs_zero]
      · rintro i hi
        by_cases hlt : i < l.length
        · obtain ⟨f, t, ef, et, hf', ht⟩ := hn.a i hlt
          have q1 := qw_dlM hf hfl f i hi
          have q2 := qw_dl1M hf hfl t hlt (qw_dlM hf hfl t i hi)
          have q3 := hf i (by omega)
          have e1 : lget ((outs n l flow i).map qsv) f = qsv (dl l flow f i) := by rw [lget_q (by simpa using hf'), gt_outs hf']
          have e2 : lget ((outs1 n l flow i).map qsv) t = qsv (dl l flow t i + if (gt l i).f.toNat = t then gt flow i else 0) := by rw [lget_q (by simpa using ht), gt_outs1 ht]
          have e3 := outs_set (flow := flow) ef hf'
          have e4 := outs1_set (flow := flow) et ht
          simp (disch := omega) [hlt, lget_arcP, ef]
          repeat (refine And.intro (by omega) ?_)
          refine CodeJ.draw (.qs [0, 1, 2, 3, 4, 5, 6, 7, 8, 9, 10, 11, 12, 13, 14, 15, 16, 17] <| .l 18 [] <| .qs [19] <| .l 20 [0] <| .nil) (by kernel_rfl) (by kernel_rfl) (by simp) ?_
          simp (disch := omega) [hlt, lget_arcP, ef, lget_q, e1, hfl]
          repeat (refine And.intro (by omega) ?_)
          refine callS (pAdd_ok _ _ (qok_of q1 (by omega)) (qok_of q3 (by omega))) (by simp) ?_
          simp (disch := omega) [hlt, lget_arcP, ef, e1, lset_eq, q_set, e3, hfl, -List.map_set]
          repeat (refine And.intro (by omega) ?_)
          refine CodeJ.draw (.qs [0, 1, 2, 3, 4, 5, 6, 7, 8, 9, 10, 11, 12, 13, 14, 15, 16, 17] <| .l 18 [] <| .qs [19] <| .l 20 [0] <| .nil) (by kernel_rfl) (by kernel_rfl) (by simp) ?_
          simp (disch := omega) [hlt, lget_arcP, et, lget_q, e2, hfl]
          repeat (refine And.intro (by omega) ?_)
          refine callS (pSub_ok _ _ (qok_of q2 (by omega)) (qok_of q3 (by omega))) (by simp) ?_
          simp (disch := omega) [hlt, lget_arcP, et, e2, lset_eq, q_set, e4, hfl, w64, -List.map_set]
          repeat (refine And.intro (by omega) ?_)
          exact ⟨i + 1, by omega, by omega, Le.syn (by simp (disch := omega) [leS, hC, w64])⟩
        · obtain rfl : i = l.length := by omega
          simp [List.take_of_length_le]
set_option maxRecDepth 10000 in
theorem rShippedK_ok (n : Nat) (l : List Arc) (hn : Net n l) (hw : ArcW l) (k : List Rat) (hk : Wd 2200 k) (hkl : k.length = n) (p : Ship) (hp : ShipK p) : PureF Tryz.prog 134 [iv n, .ro (l.map arcP), .ro (k.map qsv), shipP p] (.val (.bool (shipB n l k p))) := by
  have hl := hw.n
  have n2 := hn.n2
  have m := hn.m
  have p1 := hp.fn
  have p2 := hp.pn
  have p3 := hp.sn
  refine pure_enter Tryz.func134 rfl (by simp) (fun C hC => ?_)
  simp
  repeat (refine And.intro (by omega) ?_)
  cases hnn : p.none with
  | true =>
    simp
    repeat (refine And.intro (by omega) ?_)
    by_cases hs : p.side.length = n
    · refine ⟨fun h => absurd (by omega) h, fun _ => ?_⟩
      refine callS (zeroP) (by simp) ?_
      simp
      repeat (refine And.intro (by omega) ?_)
      refine CodeJ.loopL (ι := Nat) (fun v => ⟨164, [(0, iv n), (1, .ro (l.map arcP)), (2, .ro (k.map qsv)), (7, .ptr 0 0 0), (9, .ptr 1 0 0), (10, iv v)], [some ⟨8, [shipP p], false⟩, some ⟨4, [qsv (hasv k p.side v)], false⟩]⟩)
        (fun v => v ≤ n) (fun v => n - v) 0 ?_ ?_ ?_
      · simp
      · simp [leS, hC, hasv]
      · rintro v hv
        by_cases hvt : v < n
        · have q1 := qw_hasv hk p.side v (by omega)
          have q2 := hk v (by omega)
          cases b : gt p.side v with
          | false =>
            have e : hasv k p.side (v + 1) = hasv k p.side v := by simp [hasv, b]
            simp (disch := omega) [hvt, lget_bov, b, hs]
            repeat (refine And.intro (by omega) ?_)
            exact ⟨v + 1, by omega, by omega, Le.syn (by simp (disch := omega) [leS, hC, w64, e])⟩
          | true =>
            have e : hasv k p.side (v + 1) = hasv k p.side v + gt k v := by simp [hasv, b]
            simp (disch := omega) [hvt, lget_bov, b, hs]
            repeat (refine And.intro (by omega) ?_)
            refine CodeJ.draw (.qs [0, 1, 2, 3, 4] <| .l 5 [] <| .l 6 [1] <| .nil) (by kernel_rfl) (by kernel_rfl) (by simp) ?_
            simp (disch := omega) [hvt, lget_q, hkl]
            repeat (refine And.intro (by omega) ?_)
            refine callS (pAdd_ok _ _ (qok_of q1 (by omega)) (qok_of q2 (by omega))) (by simp) ?_
            simp (disch := omega) [w64]
            repeat (refine And.intro (by omega) ?_)
            exact ⟨v + 1, by omega, by omega, Le.syn (by simp (disch := omega) [leS, hC, w64, e])⟩
        · obtain rfl : n = v := by omega
          have q1 := qw_hasv hk p.side n (by omega)
          have q2 := qw_thr hw p.side l.length (by omega)
          simp (disch := omega) [hvt]
          repeat (refine And.intro (by omega) ?_)
          refine CodeJ.draw (.qs [0, 1, 2, 3] <| .l 4 [] <| .l 5 [] <| .qs [6] <| .nil) (by kernel_rfl) (by kernel_rfl) (by simp) ?_
          simp
          repeat (refine And.intro (by omega) ?_)
          refine callS (rThrough_ok n l hn hw p.side hs) (by simp) ?_
          simp
          repeat (refine And.intro (by omega) ?_)
          refine callS (cmpP _ _ (qok_of q1 (by omega)) (qok_of q2 (by omega))) (by simp) ?_
          simp
          repeat (refine And.intro (by omega) ?_)
          by_cases hc : thr l p.side l.length < hasv k p.side n
          · rw [yesN hnn ⟨hs, hc⟩]; simp [hc]
          · rw [noN hnn (fun h => hc h.c)]; simp [hc]
    · rw [noN hnn (fun h => hs h.sn)]
      exact ⟨fun _ => rfl, fun h => absurd (by omega) hs⟩
  | false =>
    simp
    repeat (refine And.intro (by omega) ?_)
    refine callS (rWithinM_ok l hw p.flow hp.wf hp.fn) (by simp) ?_
    simp
    repeat (refine And.intro (by omega) ?_)
    by_cases hwi : Within l p.flow
    · rw [withB_yes hwi]
      simp
      repeat (refine And.intro (by omega) ?_)
      by_cases hpr : p.prices.length = n
      · refine ⟨fun h => absurd (by omega) h, fun _ => ?_⟩
        refine callS (rLeftM_ok n l hn hw p.flow hp.wf hwi.n) (by simp) ?_
        have wo : Wd 1300000000 (outs n l p.flow l.length) := fun v hv => by
          simp only [outs_len] at hv
          rw [gt_outs hv]; exact qw_mono (qw_dlM hp.wf hwi.n v _ (Nat.le_refl _)) (by omega)
        have wk : Wd 1300000000 k := fun v hv => qw_mono (hk v hv) (by omega)
        simp
        repeat (refine And.intro (by omega) ?_)
        refine callS (rSameRow_ok (outs n l p.flow l.length) k (by omega) wo wk (by simp; omega) (by omega)) (by simp) ?_
        by_cases hd : outs n l p.flow l.length = k
        · simp [hd]
          repeat (refine And.intro (by omega) ?_)
          refine callS (zeroP) (by simp) ?_
          simp
          repeat (refine And.intro (by omega) ?_)
          have wf := hwi.n
          refine CodeJ.loopL (ι := Nat) (fun i => ⟨164, [(1, .ro (l.map arcP)), (7, .ptr 0 0 0), (15, .ptr 1 0 0), (16, iv i)], [some ⟨8, [shipP p], false⟩, some ⟨4, [qsv (costv l p.flow i)], false⟩]⟩)
            (fun i => i ≤ l.length ∧ ∀ j, j < i → ¬ slack l p j) (fun i => l.length - i) 0 ?_ ?_ ?_
          · simp
          · simp [leS, hC, costv]
          · rintro i ⟨hi, hs⟩
            by_cases hlt : i < l.length
            · obtain ⟨f, t, ef, et, hf, ht⟩ := hn.a i hlt
              have q1 := hw.cost i hlt
              have q2 := hp.wf i (by omega)
              have q3 := qw_costvK hw hp.wf hwi.n i hi
              have q4 := qw_mul q1 q2 (by omega)
              have q5 := hp.wp f (by omega)
              have q6 := hp.wp t (by omega)
              have q7 := qw_add q1 q5
              have q8 := hw.cap i hlt
              have er : red (gt l i) p = (gt l i).cost + gt p.prices f - gt p.prices t := by simp [red, ef, et]
              have hsl : slack l p i ↔ (red (gt l i) p < 0 ∧ gt p.flow i < (gt l i).cap) ∨ (0 < red (gt l i) p ∧ 0 < gt p.flow i) := Iff.rfl
              simp (disch := omega) [hlt]
              repeat (refine And.intro (by omega) ?_)
              refine CodeJ.drawZ (.d 11 <| .qs [0, 1, 2, 3, 4, 5, 6, 7, 8, 9] <| .p 10 <| .b (.l 12 [2] <| .nil)) (by kernel_rfl) (by kernel_rfl) (by simp) ?_
              simp (disch := omega) [hlt, lget_arcP, lget_q]
              repeat (refine And.intro (by omega) ?_)
              refine callV (pMul_ok _ _ (qok_of q1 (by omega)) (qok_of q2 (by omega))) (by simp) ?_
              simp
              repeat (refine And.intro (by omega) ?_)
              refine callS (pAdd_ok _ _ (qok_of q3 (by omega)) (qok_of q4 (by omega))) (by simp) ?_
              simp
              repeat (refine And.intro (by omega) ?_)
              refine CodeJ.drawZ (.d 15 <| .qs [0, 1, 2, 3, 4, 5, 6, 7, 8, 9, 10, 11, 12, 13] <| .p 14 <| .b (.l 16 [3] <| .nil)) (by kernel_rfl) (by kernel_rfl) (by simp) ?_
              simp (disch := omega) [hlt, lget_arcP, lget_q, ef]
              repeat (refine And.intro (by omega) ?_)
              refine callV (pAdd_ok _ _ (qok_of q1 (by omega)) (qok_of q5 (by omega))) (by simp) ?_
              simp
              repeat (refine And.intro (by omega) ?_)
              refine CodeJ.draw (.qs [0, 1, 2, 3, 4, 5, 6, 7, 8, 9] <| .l 10 [] <| .l 11 [3] <| .nil) (by kernel_rfl) (by kernel_rfl) (by simp) ?_
              simp (disch := omega) [hlt, lget_arcP, lget_q, et]
              repeat (refine And.intro (by omega) ?_)
              refine callS (pSub_ok _ _ (qok_of q7 (by omega)) (qok_of q6 (by omega))) (by simp) ?_
              rw [← er]
              simp
              repeat (refine And.intro (by omega) ?_)
              refine callS (sgnP (red (gt l i) p)) (by simp) ?_
              simp (disch := omega) [hlt]
              repeat (refine And.intro (by omega) ?_)
              refine CodeJ.draw (.qs [0, 1, 2, 3, 4, 5, 6, 7, 8, 9] <| .l 10 [] <| .qs [11] <| .nil) (by kernel_rfl) (by kernel_rfl) (by simp) ?_
              simp (disch := omega) [hlt, lget_arcP, lget_q]
              repeat (refine And.intro (by omega) ?_)
              refine callS (cmpP _ _ (qok_of q2 (by omega)) (qok_of q8 (by omega))) (by simp) ?_
              simp (disch := omega) [hlt, lget_q]
              repeat (refine And.intro (by omega) ?_)
              refine callS (sgnP (gt p.flow i)) (by simp) ?_
              simp (disch := omega) [w64]
              repeat (refine And.intro (by omega) ?_)
              repeat' (apply And.intro <;> intro _)
              all_goals first | exact noF hnn (fun h => h.s i hlt (hsl.2 (by grind))) | exact ⟨i + 1, ⟨by omega, step_lt hs (by rw [hsl]; grind)⟩, by omega, Le.syn (by simp (disch := omega) [leS, hC, w64, costv])⟩
            · obtain rfl : i = l.length := by omega
              have q3 := qw_costvK hw hp.wf hwi.n l.length (Nat.le_refl _)
              simp
              repeat (refine And.intro (by omega) ?_)
              refine callS (cmpP _ _ (qok_of q3 (by omega)) (qok_of hp.wc (by omega))) (by simp) ?_
              simp
              repeat (refine And.intro (by omega) ?_)
              have hd' : ∀ v, v < n → dl l p.flow v l.length = gt k v := fun v hv => by rw [← hd, gt_outs hv]
              by_cases hc : costv l p.flow l.length = p.cost
              · rw [yesF hnn ⟨hwi, hpr, hd', hs, hc⟩]; simp [hc]
              · rw [noF hnn (fun h => hc h.c)]; simp [hc]
        · have : shipB n l k p = false := noF hnn (fun h => hd (ext_gt' (by simp [hkl]) fun v hv => by simp only [outs_len] at hv; rw [gt_outs hv]; exact h.d v hv))
          simp [hd, this]
      · rw [noF hnn (fun h => hpr h.pr)]
        exact ⟨fun _ => rfl, fun h => absurd (by omega) hpr⟩
    · rw [withB_no hwi, noF hnn (fun h => hwi h.w)]
      simp
noncomputable def cheapLaw : Code := Tryz.f55.body.getD .skip
def midC (a : Int) (r ks pv er : SV) (e : Int) (b : Bool) : St := ⟨110, [(0, iv a), (7, r), (9, ks), (17, pv), (18, er), (19, iv e), (20, bov b)], []⟩
def cheapI' (l : List Arc) (k : List Rat) (st : St) : Prop :=
  (∃ c a r ks b, 0 < c ∧ c ≤ 10 ∧ st = midC a r ks (.val (.pointer none)) (erV c) (c : Nat) b) ∨ (∃ a r, ((k.length : Int) ≠ a ∨ accS k k.length ≠ 0) ∧ st = midC a r (.ro (k.map qsv)) (.val (.pointer none)) (erV 4) 0 (decide (accS k k.length = 0))) ∨
  (∃ (n : Nat) (p : Ship), netC (n : Nat) l = 0 ∧ k.length = n ∧ ShipOK n l k p ∧ p.flow.length ≤ 300 ∧ p.prices.length ≤ 60 ∧ p.side.length ≤ 60 ∧ Wd 2000000 p.flow ∧ Wd 1400000 p.prices ∧ qw 9000000 p.cost ∧ st = midC n (.ro (l.map arcP)) (.ro (k.map qsv)) (.rop (shipQ p) 0) (.val .nilIface) 0 true)
abbrev lawQ : Post := retQ Tryz.prog [.tmp 6] (fun x => x = .val (.bool true))
set_option maxRecDepth 10000 in
theorem lawErr_ok (c : Nat) (a : Int) (r ks : SV) (b : Bool) (h0 : 0 < c) (h1 : c ≤ 10) {C : Ctx} (hX : C.X = []) (hE : EOK C.w0) :
    CodeJ Tryz.prog C (dropC 12 cheapLaw) (midC a r ks (.val (.pointer none)) (erV c) (c : Nat) b) lawQ := by
  simp only [cheapLaw, Tryz.f55, Option.getD_some, dropC_succ, dropC_zero, midC]
  refine CodeJ.go ?_
  have hpos : (0 : Int) < (c : Nat) := by omega
  simp [hpos, h0]
  refine callE (coded3_ok h0 h1 c) hE hX (by simp) (fun x hx => ?_)
  subst hx
  simp
set_option maxRecDepth 10000 in
theorem lawBad_ok (c : Nat) (a : Int) (r ks : SV) (b : Bool) (h0 : 0 < c) (h1 : c ≤ 10) {C : Ctx} (hX : C.X = []) (hE : EOK C.w0) :
    CodeJ Tryz.prog C (dropC 11 cheapLaw) (midC a r ks (.val (.pointer none)) (erV c) (c : Nat) b) lawQ := by
  have go := lawErr_ok c a r ks b h0 h1 hX hE
  simp only [cheapLaw, Tryz.f55, Option.getD_some, dropC_succ, dropC_zero] at go ⊢
  have hc : ¬ ((c : Nat) : Int) = 0 := by omega
  have hc' : ¬ c = 0 := by omega
  simp only [midC] at go ⊢
  refine CodeJ.seqI (CodeJ.seqI (CodeJ.regionI (OpsJ.go ?_)))
  simp [hc, hc']
  refine CodeJ.condI false (by simp) (fun q => by cases q) (fun _ => CodeJ.go ?_)
  simp
  exact CodeJ.le (Le.syn (by simp [leS])) go
set_option maxRecDepth 10000 in
theorem lawFour_ok (a : Int) (r : SV) (k : List Rat) (hs : (k.length : Int) ≠ a ∨ accS k k.length ≠ 0) {C : Ctx} (hX : C.X = []) (hE : EOK C.w0) :
    CodeJ Tryz.prog C (dropC 11 cheapLaw) (midC a r (.ro (k.map qsv)) (.val (.pointer none)) (erV 4) 0 (decide (accS k k.length = 0))) lawQ := by
  have go := lawErr_ok 4 a r (.ro (k.map qsv)) (decide (accS k k.length = 0)) (by omega) (by omega) hX hE
  simp only [cheapLaw, Tryz.f55, Option.getD_some, dropC_succ, dropC_zero] at go ⊢
  simp only [midC] at go ⊢
  refine CodeJ.seqI (CodeJ.seqI (CodeJ.regionI (OpsJ.go ?_)))
  by_cases c1 : (k.length : Int) = a
  · have c2 : accS k k.length ≠ 0 := hs.resolve_left (fun q => q c1)
    simp [c1, c2]
    refine CodeJ.condI true (by simp) (fun _ => CodeJ.go ?_) (fun q => by cases q)
    simp
    exact CodeJ.le (Le.syn (by simp [leS, c2])) go
  · simp [c1]
    refine CodeJ.condI true (by simp) (fun _ => CodeJ.go ?_) (fun q => by cases q)
    simp
    exact CodeJ.le (Le.syn (by simp [leS])) go
set_option maxRecDepth 10000 in
theorem lawGood_ok (n : Nat) (l : List Arc) (k : List Rat) (p : Ship) (hc : netC n l = 0) (hw : ArcW l) (hk : Wd 2200 k) (hkl : k.length = n) (ok : ShipOK n l k p) (h1 : p.flow.length ≤ 300) (h2 : p.prices.length ≤ 60) (h3 : p.side.length ≤ 60) (wf : Wd 2000000 p.flow) (wp : Wd 1400000 p.prices) (wc : qw 9000000 p.cost) {C : Ctx} :
    CodeJ Tryz.prog C (dropC 11 cheapLaw) (midC n (.ro (l.map arcP)) (.ro (k.map qsv)) (.rop (shipQ p) 0) (.val .nilIface) 0 true) lawQ := by
  have hn : Net n l := by obtain ⟨m, e, h⟩ := net_of hc; obtain rfl : m = n := by omega
                          exact h
  have g := rShippedK_ok n l hn hw k hk hkl p ⟨by omega, by omega, by omega, wf, wp, wc⟩
  rw [shipB_yes ok] at g
  simp only [cheapLaw, Tryz.f55, Option.getD_some, dropC_succ, dropC_zero, midC]
  refine CodeJ.seqI (CodeJ.seqI (CodeJ.regionI (OpsJ.go ?_)))
  simp [hkl]
  refine CodeJ.condI false (by simp) (fun q => by cases q) (fun _ => CodeJ.go ?_)
  simp
  refine CodeJ.go ?_
  simp
  refine callS (rShipping_ok p h1 h2 wf wp wc) (by simp) ?_
  simp
  refine callS (g) (by simp) ?_
  simp
set_option maxRecDepth 10000 in
theorem cheapest_ok (nodes : Int) (l : List ArcS) (supply : List ByteArray) (h : SmA l) (h2 : SmN supply) : PureE Tryz.prog 55 [iv nodes, .ro (l.map arcS), .ro (supply.map strv)] (fun x => x = .val (.bool true)) := by
  have g1 := rArcs_ok l h
  have g2 := rNumbers_ok supply h2
  rw [numX_eq] at g2
  have hw : ArcW (arcs l) := arcW l h.n
  have hsl := h2.n
  refine pureE_enter Tryz.func55 rfl (by simp) (fun C hC hX hE => ?_)
  show CodeJ _ _ cheapLaw _ lawQ
  refine CodeJ.cutAt 11 (cheapI' (arcs l) (nums supply)) ?_ ?_
  · simp only [cheapLaw, Tryz.f55, Option.getD_some, takeC_succ, takeC_zero]
    simp
    refine callS (g1) (by simp) ?_
    simp
    refine callS (g2) (by simp) ?_
    simp
    refine callP (shortArcs_ok l h) (by simp) ?_
    rintro x ⟨b1, rfl, f1⟩
    simp
    refine callP (short3_ok supply h2) (by simp) ?_
    rintro x ⟨b2, rfl, f2⟩
    cases o1 : okA l with
    | false => simp
    | true =>
    cases o2 : okN supply with
    | false => simp
    | true =>
    cases b1 with
    | false => simp
    | true =>
    cases b2 with
    | false => simp
    | true =>
    have t1 := pArcs_ok l h
    have t2 := pNumbers_ok supply h2
    rw [arcsQ, if_pos o1, o1] at t1
    rw [numsQ, if_pos o2] at t2
    have hl : (arcs l).length ≤ 1048576 := hw.n
    have t6 := rNetValid_ok nodes (arcs l) hl
    have t7 := rSums_ok (nums supply) (wd_nums _) (by simpa using hsl)
    simp
    refine callS (t1) (by simp) ?_
    simp
    refine callS (t2) (by simp) ?_
    simp [arcsP, o1, numX, o2]
    by_cases hc : netC nodes (arcs l) = 0
    · obtain ⟨n, rfl, hn⟩ := net_of hc
      rw [hc] at t6
      by_cases hs : ((nums supply).length : Int) ≠ n ∨ accS (nums supply) (nums supply).length ≠ 0
      · refine callS (qCheapestS_ok n (arcs l) hl (nums supply) (wd_nums _) (by simpa using hsl) hc hs) (by simp) ?_
        simp
        refine callS (t6) (by simp) ?_
        simp
        refine callS (t7) (by simp) ?_
        simp
        exact ⟨_, .inr (.inl ⟨n, .ro ((arcs l).map arcP), hs, rfl⟩), by simp [leS, midC, hC]⟩
      · have e1 : (nums supply).length = n := by
          have := Decidable.not_not.1 (fun q => hs (.inl q))
          omega
        have e2 : accS (nums supply) n = 0 := by
          have := Decidable.not_not.1 (fun q => hs (.inr q))
          rwa [e1] at this
        rw [e1, e2] at t7
        refine callP (qCheapest_ok n (arcs l) hc hw (nums supply) (wd_nums _) e1 e2) (by simp) ?_
        rintro y ⟨p, rfl, ok, c1, c2, c3, wf, wp, wc⟩
        simp
        refine callS (t6) (by simp) ?_
        simp
        refine callS (t7) (by simp) ?_
        simp
        exact ⟨_, .inr (.inr ⟨n, p, hc, e1, ok, c1, c2, c3, wf, wp, wc, rfl⟩), by simp [leS, midC, hC]⟩
    · refine callS (qCheapestE_ok nodes (arcs l) hl (nums supply) hc) (by simp) ?_
      simp
      refine callS (t6) (by simp) ?_
      simp
      refine callS (t7) (by simp) ?_
      simp
      exact ⟨_, .inl ⟨netC nodes (arcs l), nodes, .ro ((arcs l).map arcP), .ro ((nums supply).map qsv), decide (accS (nums supply) (nums supply).length = 0), by omega, by rcases netC_le nodes (arcs l) with e | e | e <;> omega, rfl⟩, by simp [leS, midC, hC]⟩
  · rintro st (⟨c, a, r, ks, b, h0, h1, rfl⟩ | ⟨a, r, h0, rfl⟩ | ⟨n, p, hc, e1, ok, c1, c2, c3, wf, wp, wc, rfl⟩)
    · exact lawBad_ok c a r ks b h0 h1 hX hE
    · exact lawFour_ok a r (nums supply) h0 hX hE
    · exact lawGood_ok n (arcs l) (nums supply) p hc hw (wd_nums _) e1 ok c1 c2 c3 wf wp wc
set_option maxRecDepth 10000 in
theorem netsCheapest_ok (nodes : Int) (l : List ArcS) (supply : List ByteArray) (h : SmA l) (h2 : SmN supply) : PureE Tryz.prog 9 [iv nodes, .ro (l.map arcS), .ro (supply.map strv)] (fun x => x = .val (.bool true)) := by
  refine pureE_enter Tryz.func9 rfl (by simp) (fun C hC hX hE => ?_)
  refine CodeJ.go ?_
  simp
  refine callS (gLone) (by simp) ?_
  simp
  refine callES (cheapest_ok 2 loneS [s3, sm3] lone_sm (sm2 (by decide) (by decide))) hE hX (by simp [s3, sm3]) (fun x hx => ?_)
  subst hx
  simp
  refine callE (cheapest_ok nodes l supply h h2) hE hX (by simp) (fun x hx => ?_)
  subst hx
  simp
end Go.Proofs

