/- Whether a claim shows itself: the program's answer. A text of the prover's own. -/
import Derived.Test.YtilpfpephcngbaaGreatDoorUKn
namespace Go.Sv
open Go
@[simp] theorem ev_func (fr : List (Nat × SV)) (f : FuncId) : ev fr (.func f) = some (.val (.func (.func f) #[] #[])) := rfl
/-- nil slices are read as slices of nothing in a call -/
theorem callNil {P : Program} {C : Ctx} {f : FuncId} {args : List SV} {M : Tab} {W : Option (List Nat)} {K : Tab → List Nat → SV → Prop} (h : CallJ P C f (nlL args) (nlM M) W K) : CallJ P C f args M W K :=
  fun β H w vals hd hW => h β H w vals (nlL_denT hd) hW.nl
/-- a plain function as a value that may be called -/
def fnX : SV → SV
  | .val (.func (.func f) ⟨[]⟩ ⟨[]⟩) => .fnv f [] []
  | x => x
@[simp] theorem fnX_fn {f : FuncId} : fnX (.val (.func (.func f) #[] #[])) = .fnv f [] [] := rfl
theorem fnX_den {β : Bnd} {H : Hp} {x : SV} {v : Value} (h : Den β H x v) : Den β H (fnX x) v := by
  unfold fnX
  split
  · simp only [Den] at h ⊢
    exact ⟨[], [], h.1, by simp only [DenT], by simp only [DenT]⟩
  · exact h
def fnS (st : St) : St := ⟨st.n, st.fr.map fun p => (p.1, fnX p.2), st.M⟩
theorem get_fn : ∀ {fr : List (Nat × SV)} {t : Nat} {x : SV}, get (fr.map fun p => (p.1, fnX p.2)) t = some x → ∃ y, get fr t = some y ∧ x = fnX y
  | [], t, x, h => by simp [get] at h
  | (s, y) :: r, t, x, h => by
    simp only [List.map_cons, get] at h ⊢
    split at h
    · rename_i e
      simp only [Option.some.injEq] at h
      exact ⟨y, by rw [if_pos e], h.symm⟩
    · rename_i e
      obtain ⟨z, h1, h2⟩ := get_fn (fr := r) h
      exact ⟨z, by rw [if_neg e]; exact h1, h2⟩
theorem Le.fn {C : Ctx} (st : St) : Le C st (fnS st) := by
  rintro a w ⟨β, H, hF, hW⟩
  refine ⟨β, H, ⟨hF.1, hF.2.1, fun t x hg => ?_⟩, hW⟩
  obtain ⟨y, hy, rfl⟩ := get_fn hg
  obtain ⟨v, hv, hd⟩ := hF.2.2 t y hy
  exact ⟨v, hv, fnX_den hd⟩
end Go.Sv
namespace Go.Li
open Go Go.Sv Go.Pl Go.Proofs Go.Tb Go.Ut
structure Clm where
  kind : Int
  x : List Rat
  y : List Rat
  ray : List Rat
  value : Rat
structure ClmT where
  kind : Int
  x : List ByteArray
  y : List ByteArray
  ray : List ByteArray
  value : ByteArray
def clQ (c : Clm) : SV := .agg ([iv c.kind, .ro (c.x.map rsv), .ro (c.y.map rsv), .ro (c.ray.map rsv)] ++ (rsv c.value).cells)
@[simp] theorem clQ_csz (c : Clm) : (clQ c).csz = 8 := rfl
@[simp] theorem clQ_isTup (c : Clm) : (clQ c).isTup = false := rfl
@[simp] theorem clQ_isAgg (c : Clm) : (clQ c).isAgg = true := rfl
@[simp] theorem clQ_one (c : Clm) : (clQ c).one = false := rfl
@[simp] theorem clQ_pure (c : Clm) : (clQ c).pure = true := rfl
@[simp] theorem clQ_lt (n : Nat) (c : Clm) : (clQ c).lt n = true := rfl
@[simp] theorem clQ_uses (n : Nat) (c : Clm) : (clQ c).uses n = false := rfl
@[simp] theorem clQ_ks (c : Clm) : (clQ c).ks = [] := rfl
@[simp] theorem clQ_f0 (c : Clm) : lget (clQ c).cells 0 = iv c.kind := rfl
@[simp] theorem clQ_f1 (c : Clm) : lget (clQ c).cells 1 = .ro (c.x.map rsv) := rfl
@[simp] theorem clQ_f2 (c : Clm) : lget (clQ c).cells 2 = .ro (c.y.map rsv) := rfl
@[simp] theorem clQ_f3 (c : Clm) : lget (clQ c).cells 3 = .ro (c.ray.map rsv) := rfl
@[simp] theorem clQ_f4 (c : Clm) : SV.agg (((clQ c).cells.drop 4).take 4) = rsv c.value := rfl
def clT (c : ClmT) : SV := .agg ([iv c.kind, .ro (c.x.map strv), .ro (c.y.map strv), .ro (c.ray.map strv), strv c.value])
@[simp] theorem clT_csz (c : ClmT) : (clT c).csz = 5 := rfl
@[simp] theorem clT_isTup (c : ClmT) : (clT c).isTup = false := rfl
@[simp] theorem clT_isAgg (c : ClmT) : (clT c).isAgg = true := rfl
@[simp] theorem clT_one (c : ClmT) : (clT c).one = false := rfl
@[simp] theorem clT_pure (c : ClmT) : (clT c).pure = true := rfl
@[simp] theorem clT_lt (n : Nat) (c : ClmT) : (clT c).lt n = true := rfl
@[simp] theorem clT_uses (n : Nat) (c : ClmT) : (clT c).uses n = false := rfl
@[simp] theorem clT_ks (c : ClmT) : (clT c).ks = [] := rfl
@[simp] theorem clT_f0 (c : ClmT) : lget (clT c).cells 0 = iv c.kind := rfl
@[simp] theorem clT_f1 (c : ClmT) : lget (clT c).cells 1 = .ro (c.x.map strv) := rfl
@[simp] theorem clT_f2 (c : ClmT) : lget (clT c).cells 2 = .ro (c.y.map strv) := rfl
@[simp] theorem clT_f3 (c : ClmT) : lget (clT c).cells 3 = .ro (c.ray.map strv) := rfl
@[simp] theorem clT_f4 (c : ClmT) : lget (clT c).cells 4 = strv c.value := rfl
@[simp] theorem clQ_val (c : Clm) : SV.agg (List.take 4 (clQ c).cells.tail.tail.tail.tail) = rsv c.value := rfl
@[simp] theorem clQ_val' (c : Clm) : SV.agg (List.take 4 (List.drop 4 (clQ c).cells)) = rsv c.value := rfl
def numR (l : List ByteArray) : List Rat := if okN l = true then nums l else []
theorem numY_R (l : List ByteArray) : numY l = (numR l).map rsv := by unfold numY numR; split <;> rfl
def clOf (c : ClmT) : Clm := ⟨c.kind, numR c.x, numR c.y, numR c.ray, num c.value⟩
def okCl (c : ClmT) : Bool := okN c.x && okN c.y && okN c.ray && okNum c.value
theorem wd_numR (l : List ByteArray) : Wd 2200 (numR l) := by
  unfold numR; split
  · exact wd_nums l
  · exact fun i hi => by simp at hi
structure ClW (c : Clm) : Prop where
  x : Wd 2200 c.x
  y : Wd 2200 c.y
  r : Wd 2200 c.ray
  v : qw 2200 c.value
  nx : c.x.length ≤ 1048576
  ny : c.y.length ≤ 1048576
  nr : c.ray.length ≤ 1048576
structure SmCl (c : ClmT) : Prop where
  x : SmN c.x
  y : SmN c.y
  r : SmN c.ray
  v : c.value.size ≤ 1048576
theorem numR_len {l : List ByteArray} (h : l.length ≤ 1048576) : (numR l).length ≤ 1048576 := by
  unfold numR; split
  · rw [nums_len]; exact h
  · simp
theorem clW_of {c : ClmT} (h : SmCl c) : ClW (clOf c) := ⟨wd_numR _, wd_numR _, wd_numR _, qw_qrd _, numR_len h.x.n, numR_len h.y.n, numR_len h.r.n⟩
def holdsL (p : Prob) (x : List Rat) : Bool := decide (x.length = p.cols.length) && holdsB p x false
def bestB (p : Prob) (c : Clm) : Bool := (holdsL p c.x && decide (c.y.length = p.rows.length) && decide (c.ray.length = 0)) && ((limB p c.y).has && decide (valK p c.x p.cols.length = c.value) && decide ((limB p c.y).at' = valK p c.x p.cols.length))
def noneB (p : Prob) (c : Clm) : Bool := (decide (c.x.length = 0) && decide (c.ray.length = 0) && decide (c.value = 0)) && (if c.y.length = 0 then crossedB p else decide (c.y.length = p.rows.length) && farkB p c.y)
@[simp] theorem spQ_g0 (s : Sp) : lget (spQ s).cells 0 = .val (.bool s.lo.has) := rfl
@[simp] theorem spQ_g5 (s : Sp) : lget (spQ s).cells 5 = .val (.bool s.hi.has) := rfl
@[simp] theorem spQ_t1 (s : Sp) : SV.agg (List.take 4 (spQ s).cells.tail) = rsv s.lo.at' := rfl
@[simp] theorem spQ_t6 (s : Sp) : SV.agg (List.take 4 (List.drop 6 (spQ s).cells)) = rsv s.hi.at' := rfl
theorem nlL_rc' (q : Rat) (r : List SV) : nlL ((rsv q).cells ++ r) = (rsv q).cells ++ nlL r := rfl
theorem nlL_map {α : Type} (f : α → SV) (l : List α) : nlL (l.map f) = l.map fun x => nlV (f x) := by
  induction l with
  | nil => rfl
  | cons a l ih => simp [ih]
def colZn (c : Col) : SV := .agg (.val (.string c.name) :: .val (.bool c.whole) :: ((boQ c.low).cells ++ ((boQ c.high).cells ++ [.val (.bool false), .val (.slice none 0 0), .val (.bool false), .val (.slice none 0 0)])))
theorem nlV_colZn (c : Col) : nlV (colZn c) = colQ { c with cost := 0 } := by
  have e : nlV (colZn c) = .agg (.val (.string c.name) :: .val (.bool c.whole) :: ((boQ c.low).cells ++ ((boQ c.high).cells ++ [.val (.bool false), .ro [], .val (.bool false), .ro []]))) := rfl
  rw [e]
  have r : (rsv 0).cells = [.val (.bool false), .ro [], .val (.bool false), .ro []] := by rw [← rsv0]; rfl
  show _ = SV.agg (.val (.string c.name) :: .val (.bool c.whole) :: ((boQ c.low).cells ++ ((boQ c.high).cells ++ (rsv 0).cells)))
  rw [r]
def frL (p : Prob) (j : Nat) : List SV := (List.range p.cols.length).map fun i => if i < j then colZn (gt p.cols i) else colQ (gt p.cols i)
theorem frL_len (p : Prob) (j : Nat) : (frL p j).length = p.cols.length := by simp [frL]
theorem frL_at {p : Prob} {j : Nat} (h : j < p.cols.length) : lget (frL p j) j = colQ (gt p.cols j) := by
  unfold frL
  rw [lget_eq (by simpa using h)]
  simp
theorem frL_set {p : Prob} {j : Nat} (h : j < p.cols.length) : lset (frL p j) j (colZn (gt p.cols j)) = frL p (j + 1) := by
  rw [lset_eq]
  unfold frL
  refine List.ext_getElem (by simp) fun i h1 h2 => ?_
  simp only [List.length_set, List.length_map, List.length_range] at h1
  rw [List.getElem_set]
  by_cases e : j = i
  · subst e; simp
  · rw [if_neg e]
    simp only [List.getElem_map, List.getElem_range]
    by_cases h3 : i < j
    · rw [if_pos h3, if_pos (by omega)]
    · rw [if_neg h3, if_neg (by omega)]
theorem frL_0 (p : Prob) : frL p 0 = p.cols.map colQ := by
  unfold frL
  refine List.ext_getElem (by simp) fun i h1 h2 => ?_
  simp only [List.length_map, List.length_range] at h1
  simp [gt_get h1]
theorem frL_nl (p : Prob) : nlL (frL p p.cols.length) = (free p).cols.map colQ := by
  unfold frL free
  rw [nlL_map, List.map_map]
  refine List.ext_getElem (by simp) fun i h1 h2 => ?_
  simp only [List.length_map, List.length_range] at h1
  simp only [List.getElem_map, List.getElem_range, if_pos h1, nlV_colZn, Function.comp, gt_get h1]
@[simp] theorem okE_colQ (l : List Col) : okE 16 (l.map colQ) = True := by cases l <;> simp [okE]
theorem few_free {p : Prob} (h : Few p) : Few (free p) := ⟨by rw [free_cols]; exact h.nc, h.nr, h.nt⟩
theorem probW_free {p : Prob} (h : ProbW p) : ProbW (free p) := ⟨h.sh, fun j hj => by
  rw [free_cols] at hj
  rw [free_cost hj]
  exact ⟨qw_mono (qw_small (n := 0) (by omega) (by omega)) (by omega), (h.co j hj).2⟩, h.ro, h.te⟩
theorem spW_noR {p : Prob} (hw : ProbW p) {y : List Rat} (hy : Wd 2200 y) (hl : p.rows.length ≤ y.length) : ∀ i, i ≤ p.rows.length → spW (2200 + 4401 * i) (noR p y i)
  | 0, _ => ⟨qw_mono (qw_small (n := 0) (by omega) (by omega)) (by omega), qw_mono (qw_small (n := 0) (by omega) (by omega)) (by omega)⟩
  | i + 1, hi => by
    have h := spW_plus (spW_noR hw hy hl i (by omega)) (hw.ro i (by omega)).1 (hw.ro i (by omega)).2 (hy i (by omega)) (by omega)
    exact ⟨qw_mono h.1 (by omega), qw_mono h.2 (by omega)⟩
theorem spW_noC {p : Prob} (hw : ProbW p) {y : List Rat} (hy : Wd 2200 y) (hl : p.rows.length ≤ y.length) (hr : p.rows.length ≤ 120) : ∀ j, j ≤ p.cols.length → spW (1000000 + 1000000 * j) (noC p y j)
  | 0, _ => ⟨qw_mono (qw_small (n := 0) (by omega) (by omega)) (by omega), qw_mono (qw_small (n := 0) (by omega) (by omega)) (by omega)⟩
  | j + 1, hj => by
    have wd := qw_dP (probW_free hw) hy (show (free p).rows.length ≤ y.length from hl) (show j < (free p).cols.length by rw [free_cols]; omega) p.rows.length (Nat.le_refl _)
    have h := spW_plus (spW_noC hw hy hl hr j (by omega)) (hw.co j (by omega)).2.1 (hw.co j (by omega)).2.2 (qw_neg wd) (by omega)
    exact ⟨qw_mono h.1 (by omega), qw_mono h.2 (by omega)⟩
def outB (low high : Bo) (r : Rat) : Bool := !(decide (0 < r) && high.has) && !(decide (r < 0) && low.has)
def gainK (p : Prob) (x : List Rat) : Nat → Rat
  | 0 => 0
  | j + 1 => gainK p x j + (gt p.cols j).cost * gt x j
theorem qw_gain {p : Prob} (hw : ProbW p) {x : List Rat} (hx : Wd 2200 x) (hl : p.cols.length ≤ x.length) : ∀ j, j ≤ p.cols.length → qw (1 + 4401 * j) (gainK p x j)
  | 0, _ => qw_mono (qw_small (n := 0) (by omega) (by omega)) (by omega)
  | j + 1, hj => qw_mono (qw_add (qw_gain hw hx hl j (by omega)) (qw_mul (hw.co j (by omega)).1 (hx j (by omega)) (by omega))) (by omega)
theorem nlV_clQ (c : Clm) : nlV (clQ c) = clQ c := rfl
def outCl (p : Prob) (x : List Rat) (j : Nat) : Bool := outB (gt p.cols j).low (gt p.cols j).high (gt x j)
def outRw (p : Prob) (x : List Rat) (i : Nat) : Bool := outB (gt p.rows i).low (gt p.rows i).high (rowS p x i)
def endB (p : Prob) (c : Clm) : Bool := (holdsL p c.x && decide (c.ray.length = p.cols.length) && decide (c.y.length = 0) && decide (c.value = 0)) && ((List.range p.cols.length).all (outCl p c.ray) && (List.range p.rows.length).all (outRw p c.ray)) && (decide (gainK p c.ray p.cols.length ≠ 0) && (decide (0 < gainK p c.ray p.cols.length) == p.max))
def chkB (p : Prob) (c : Clm) : Bool := if c.kind = 1 then bestB p c else if c.kind = 2 then noneB p c else if c.kind = 3 then endB p c else false
end Go.Li
namespace Go.Proofs
open Go.Sv Go Go.Tb Go.Pl Go.Ut Go.Li
theorem qClaim_ok (c : ClmT) (h : SmCl c) : PureF Tryz.prog 45 [clT c] (.tup [clQ (clOf c), .val (.bool (okCl c))]) := by
  have g1 := pNumbers_ok c.x h.x
  have g2 := pNumbers_ok c.y h.y
  have g3 := pNumbers_ok c.ray h.r
  have g4 := pNumber_ok c.value (by have := h.v; omega)
  rw [numY_eq, numY_R] at g1 g2 g3
  refine pure_enter Tryz.func45 rfl (by simp) (fun C hC => ?_)
  simp
  refine callS (g1) (by simp) ?_
  simp
  refine callS (g2) (by simp) ?_
  simp
  refine callS (g3) (by simp) ?_
  simp
  refine callS (g4) (by simp) ?_
  simp
  have e : SV.agg (.val (.int .i64 c.kind) :: .ro ((numR c.x).map rsv) :: .ro ((numR c.y).map rsv) :: .ro ((numR c.ray).map rsv) :: (rsv (num c.value)).cells) = clQ (clOf c) := rfl
  rw [e]
  simp
  repeat' (apply And.intro <;> intro _)
  all_goals simp [okCl, okNum, *]
theorem qHoldsL_ok (p : Prob) (h : Few p) (hw : ProbW p) (hv : validC p = 0) (x : List Rat) (hx : Wd 2200 x) : PureF Tryz.prog 172 [.rop (probQ p) 0, .ro (x.map rsv)] (bov (holdsL p x)) := by
  refine pure_enter Tryz.func172 rfl (by simp) (fun C hC => ?_)
  simp
  by_cases hl : x.length = p.cols.length
  · refine callS (qHolds_ok p h hw hv x hx hl false) (by simp) ?_
    simp [holdsL, hl]
  · refine callS (qHoldsS_ok p h hv x hl false) (by simp) ?_
    simp [holdsL, hl]
theorem qOut_ok (a b : Bo) (r : Rat) : PureF Tryz.prog 178 [boQ a, boQ b, rsv r] (bov (outB a b r)) := by
  refine pure_enter Tryz.func178 rfl (by simp) (fun C hC => ?_)
  simp
  refine callS (sgnQ r) (by simp) ?_
  simp
  refine ⟨fun h1 => ⟨fun h2 => ?_, fun h2 => by simp [outB, h1, h2]⟩, fun h1 => ?_⟩
  · refine callS (sgnQ r) (by simp) ?_
    simp
    repeat' (apply And.intro <;> intro _)
    all_goals first | (simp [outB, *]; done) | (exfalso; grind)
  · refine callS (sgnQ r) (by simp) ?_
    simp
    repeat' (apply And.intro <;> intro _)
    all_goals first | (simp [outB, *]; done) | (exfalso; grind)
theorem qCross1_ok (a b : Bo) (ha : qok a.at') (hb : qok b.at') : PureF Tryz.prog 225 [boQ a, boQ b] (bov (crossB a b)) := by
  refine pure_enter Tryz.func225 rfl (by simp) (fun C hC => ?_)
  simp
  refine ⟨fun h1 => ⟨fun h2 => ?_, fun h2 => by simp [crossB, h1, h2]⟩, fun h1 => by simp [crossB, h1]⟩
  refine callS (cmpQ a.at' b.at' ha hb) (by simp) ?_
  simp [crossB, h1, h2]
theorem crossed_at {p : Prob} {j : Nat} (hj : j < p.cols.length) (h : crossB (gt p.cols j).low (gt p.cols j).high = true) : crossedB p = true := by
  unfold crossedB
  rw [Bool.or_eq_true, List.any_eq_true]
  exact .inl ⟨_, gt_mem hj, h⟩
theorem crossed_atR {p : Prob} {j : Nat} (hj : j < p.rows.length) (h : crossB (gt p.rows j).low (gt p.rows j).high = true) : crossedB p = true := by
  unfold crossedB
  rw [Bool.or_eq_true, List.any_eq_true, List.any_eq_true]
  exact .inr ⟨_, gt_mem hj, h⟩
theorem crossed_nil {p : Prob} (h1 : ∀ j, j < p.cols.length → crossB (gt p.cols j).low (gt p.cols j).high = false) (h2 : ∀ j, j < p.rows.length → crossB (gt p.rows j).low (gt p.rows j).high = false) : crossedB p = false := by
  unfold crossedB
  rw [Bool.or_eq_false_iff]
  refine ⟨List.any_eq_false.2 fun c hc => ?_, List.any_eq_false.2 fun r hr => ?_⟩
  · obtain ⟨j, hj, rfl⟩ := List.getElem_of_mem hc
    rw [gt_get hj, h1 j hj]; simp
  · obtain ⟨j, hj, rfl⟩ := List.getElem_of_mem hr
    rw [gt_get hj, h2 j hj]; simp
set_option maxRecDepth 10000 in
theorem qCrossed_ok (p : Prob) (h : Few p) (hw : ProbW p) : PureF Tryz.prog 174 [.rop (probQ p) 0] (bov (crossedB p)) := by
  have nc := h.nc
  have nr := h.nr
  refine pure_enter Tryz.func174 rfl (by simp) (fun C hC => ?_)
  simp
  refine CodeJ.le (Le.fn _) ?_
  simp [fnS, fnX]
  refine CodeJ.loopL (ι := Nat) (fun j => ⟨40, [(0, .rop (probQ p) 0), (3, .fnv 225 [] []), (11, .ro (p.cols.map colQ)), (12, iv p.cols.length), (13, iv j)], []⟩)
    (fun j => j ≤ p.cols.length ∧ ∀ k, k < j → crossB (gt p.cols k).low (gt p.cols k).high = false) (fun j => p.cols.length - j) 0 (by simp) ?_ ?_
  · simp [leS, hC]
    done
  · rintro j ⟨hj, hb⟩
    by_cases hlt : j < p.cols.length
    · have w2 := hw.co j hlt
      simp (disch := omega) [hlt, lget_colQ]
      repeat (refine And.intro (by omega) ?_)
      refine callS (qCross1_ok (gt p.cols j).low (gt p.cols j).high (qok_of w2.2.1 (by omega)) (qok_of w2.2.2 (by omega))) (by simp) ?_
      simp (disch := omega) [w64]
      repeat (refine And.intro (by omega) ?_)
      exact ⟨fun q => crossed_at hlt q, fun q => ⟨j + 1, ⟨by omega, stp hb q⟩, by omega, Le.syn (by simp (disch := omega) [leS, hC, w64])⟩⟩
    · obtain rfl : j = p.cols.length := by omega
      simp
      refine CodeJ.loopL (ι := Nat) (fun i => ⟨40, [(0, .rop (probQ p) 0), (3, .fnv 225 [] []), (27, .ro (p.rows.map rowQ)), (28, iv p.rows.length), (29, iv i)], []⟩)
        (fun i => i ≤ p.rows.length ∧ ∀ k, k < i → crossB (gt p.rows k).low (gt p.rows k).high = false) (fun i => p.rows.length - i) 0 (by simp) ?_ ?_
      · simp [leS, hC]
      · rintro i ⟨hi, hr⟩
        by_cases hlt : i < p.rows.length
        · have w2 := hw.ro i hlt
          simp (disch := omega) [hlt, lget_rowQ]
          repeat (refine And.intro (by omega) ?_)
          refine callS (qCross1_ok (gt p.rows i).low (gt p.rows i).high (qok_of w2.1 (by omega)) (qok_of w2.2 (by omega))) (by simp) ?_
          simp (disch := omega) [w64]
          repeat (refine And.intro (by omega) ?_)
          exact ⟨fun q => crossed_atR hlt q, fun q => ⟨i + 1, ⟨by omega, stp hr q⟩, by omega, Le.syn (by simp (disch := omega) [leS, hC, w64])⟩⟩
        · obtain rfl : i = p.rows.length := by omega
          simp [crossed_nil hb hr]
set_option maxRecDepth 10000 in
theorem qBest_ok (p : Prob) (h : Few p) (hw : ProbW p) (hv : validC p = 0) (c : Clm) (hc : ClW c) : PureF Tryz.prog 112 [.rop (probQ p) 0, clQ c] (bov (bestB p c)) := by
  have nr := h.nr
  have ny := hc.ny
  have nra := hc.nr
  refine pure_enter Tryz.func112 rfl (by simp) (fun C hC => ?_)
  simp
  refine CodeJ.draw (.qs [0, 1, 2] <| .l 3 [] <| .qs [4, 5, 6, 7, 8, 9, 10, 11, 12, 13, 14, 15, 16, 17, 18, 19, 20, 21] <| .nil) (by kernel_rfl) (by kernel_rfl) (by simp) ?_
  simp
  refine callS (qHoldsL_ok p h hw hv c.x hc.x) (by simp) ?_
  simp
  refine ⟨fun h1 => ⟨fun h2 => ?_, fun h2 => ?_⟩, fun h1 => by simp [bestB, h1]⟩
  · have hy : c.y.length = p.rows.length := by omega
    refine ⟨fun h3 => ?_, fun h3 => ?_⟩
    · have : c.ray ≠ [] := fun e => by rw [e] at h3; simp at h3
      simp [bestB, this]
    have hx : c.x.length = p.cols.length := by
      unfold holdsL at h1
      simp only [Bool.and_eq_true, decide_eq_true_eq] at h1
      exact h1.1
    have wv := qw_valK hw hc.x (by omega) p.cols.length (by omega)
    have wl : qok (limB p c.y).at' := by
      have := spW_C hw hc.y (by omega) (valid_yes hv).1 p.cols.length (by omega)
      have := (valid_yes hv).2.1
      unfold limB; split
      · exact qok_of (by assumption : spW _ _).2 (by omega)
      · exact qok_of (by assumption : spW _ _).1 (by omega)
    have v2 := (valid_yes hv).2.1
    refine callS (qValue_ok p h hw hv c.x hc.x hx) (by simp) ?_
    simp
    refine callS (qLimit_ok p h hw hv c.y hc.y hy) (by simp) ?_
    simp
    refine ⟨fun h4 => ?_, fun h4 => by simp [bestB, h4]⟩
    refine callS (cmpQ _ c.value (qok_of wv (by omega)) (qok_of hc.v (by omega))) (by simp) ?_
    simp
    refine ⟨fun h5 => ?_, fun h5 => by simp [bestB, h5]⟩
    refine callS (cmpQ (limB p c.y).at' _ wl (qok_of wv (by omega))) (by simp) ?_
    simp [bestB, h1, hy, h3, h4, h5]
  · have : ¬ c.y.length = p.rows.length := by omega
    simp [bestB, this]
set_option maxRecDepth 10000 in
theorem qEnd_ok (p : Prob) (h : Few p) (hw : ProbW p) (hv : validC p = 0) (c : Clm) (hc : ClW c) : PureF Tryz.prog 114 [.rop (probQ p) 0, clQ c] (bov (endB p c)) := by
  have nc := h.nc
  have nr := h.nr
  have ny := hc.ny
  have nra := hc.nr
  refine pure_enter Tryz.func114 rfl (by simp) (fun C hC => ?_)
  simp
  refine CodeJ.draw (.qs [0, 1, 2] <| .l 3 [] <| .qs [4, 5, 6, 7, 8, 9, 10, 11, 12, 13, 14, 15, 16, 17, 18, 19, 20, 21, 22, 23, 24] <| .l 25 [] <| .qs [26, 27] <| .nil) (by kernel_rfl) (by kernel_rfl) (by simp) ?_
  simp
  refine callS (qHoldsL_ok p h hw hv c.x hc.x) (by simp) ?_
  simp
  refine ⟨fun h1 => ⟨fun h2 => ⟨fun h3 => ?_, fun h3 => ?_⟩, fun h2 => ?_⟩, fun h1 => by simp [endB, h1]⟩
  · have hl : c.ray.length = p.cols.length := by omega
    refine callS (sgnQ c.value) (by simp) ?_
    simp
    refine ⟨fun h4 => by simp [endB, h4], fun h4 => ?_⟩
    refine CodeJ.le (Le.nl _) ?_
    simp [nlS, rsv0, nlV_clQ]
    have noC := fun j (hj : j < p.cols.length) (e : outCl p c.ray j = false) => show endB p c = false by unfold endB; rw [rng_no hj e]; simp
    have noR := fun j (hj : j < p.rows.length) (e : outRw p c.ray j = false) => show endB p c = false by unfold endB; rw [rng_no hj e]; simp
    refine CodeJ.loopL (ι := Nat) (fun j => ⟨104, [(0, .rop (probQ p) 0), (3, .ptr 0 0 0), (5, .ptr 1 0 0), (41, .ro (p.cols.map colQ)), (42, iv p.cols.length), (43, iv j)], [some ⟨8, [clQ c], false⟩, some ⟨4, [rsv (gainK p c.ray j)], false⟩]⟩)
      (fun j => j ≤ p.cols.length ∧ ∀ k, k < j → outCl p c.ray k = true) (fun j => p.cols.length - j) 0 (by simp) ?_ ?_
    · simp [leS, hC, gainK]
      done
    · rintro j ⟨hj, hb⟩
      by_cases hlt : j < p.cols.length
      · have w1 := qw_gain hw hc.r (by omega) j (by omega)
        have w2 := hc.r j (by omega)
        have w3 := (hw.co j hlt).1
        simp (disch := omega) [hlt, lget_colQ]
        repeat (refine And.intro (by omega) ?_)
        refine CodeJ.draw (.qs [0, 1, 2, 3, 4, 5, 6, 7] <| .l 8 [] <| .l 9 [] <| .l 10 [1] <| .nil) (by kernel_rfl) (by kernel_rfl) (by simp) ?_
        simp (disch := omega) [hlt, lget_r]
        repeat (refine And.intro (by omega) ?_)
        refine callS (qMul_ok _ _ (qok_of w3 (by omega)) (qok_of w2 (by omega))) (by simp) ?_
        simp
        refine callS (qAdd_ok _ _ (qok_of w1 (by omega)) (qok_of (qw_mul w3 w2 (by omega)) (by omega))) (by simp) ?_
        simp (disch := omega) [w64]
        repeat (refine And.intro (by omega) ?_)
        refine CodeJ.draw (.qs [0, 1, 2, 3, 4, 5, 6, 7, 8] <| .l 9 [] <| .qs [10] <| .nil) (by kernel_rfl) (by kernel_rfl) (by simp) ?_
        simp (disch := omega) [hlt, lget_r]
        repeat (refine And.intro (by omega) ?_)
        refine callS (qOut_ok (gt p.cols j).low (gt p.cols j).high (gt c.ray j)) (by simp) ?_
        simp (disch := omega) [w64]
        repeat (refine And.intro (by omega) ?_)
        exact ⟨fun q => noC j hlt q, fun q => ⟨j + 1, ⟨by omega, stp hb q⟩, by omega, Le.syn (by simp (disch := omega) [leS, hC, w64, gainK])⟩⟩
      · obtain rfl : j = p.cols.length := by omega
        simp
        refine CodeJ.loopL (ι := Nat) (fun i => ⟨104, [(0, .rop (probQ p) 0), (3, .ptr 0 0 0), (5, .ptr 1 0 0), (73, .ro (p.rows.map rowQ)), (74, iv p.rows.length), (75, iv i)], [some ⟨8, [clQ c], false⟩, some ⟨4, [rsv (gainK p c.ray p.cols.length)], false⟩]⟩)
          (fun i => i ≤ p.rows.length ∧ ∀ k, k < i → outRw p c.ray k = true) (fun i => p.rows.length - i) 0 (by simp) ?_ ?_
        · simp [leS, hC]
        · rintro i ⟨hi, hr⟩
          by_cases hlt : i < p.rows.length
          · have to := terms_ok hw hv hl hlt
            have nt := h.nt i hlt
            simp (disch := omega) [hlt, lget_rowQ]
            repeat (refine And.intro (by omega) ?_)
            refine CodeJ.draw (.qs [0, 1, 2, 3, 4, 5, 6, 7] <| .l 8 [] <| .l 9 [] <| .qs [10] <| .nil) (by kernel_rfl) (by kernel_rfl) (by simp) ?_
            simp (disch := omega) [hlt, lget_rowQ]
            repeat (refine And.intro (by omega) ?_)
            refine callS (qSum_ok (gt p.rows i) nt c.ray hc.r to) (by simp) ?_
            simp
            refine callS (qOut_ok (gt p.rows i).low (gt p.rows i).high (rowS p c.ray i)) (by simp) ?_
            simp (disch := omega) [w64]
            repeat (refine And.intro (by omega) ?_)
            exact ⟨fun q => noR i hlt q, fun q => ⟨i + 1, ⟨by omega, stp hr q⟩, by omega, Le.syn (by simp (disch := omega) [leS, hC, w64])⟩⟩
          · obtain rfl : i = p.rows.length := by omega
            simp
            refine CodeJ.draw (.qs [0] <| .l 1 [] <| .qs [2, 3, 4, 7, 8, 9, 10] <| .l 5 [] <| .qs [6, 11, 12, 13] <| .nil) (by kernel_rfl) (by kernel_rfl) (by simp) ?_
            simp
            refine callS (sgnQ (gainK p c.ray p.cols.length)) (by simp) ?_
            simp
            have eC := rng_yes hb
            have eR := rng_yes hr
            refine ⟨fun q1 => ?_, fun q1 => by simp [endB, q1]⟩
            refine callS (sgnQ (gainK p c.ray p.cols.length)) (by simp) ?_
            unfold endB
            rw [eC, eR]
            simp [h1, hl, h3, h4, q1]
  · have : c.y ≠ [] := fun e => by rw [e] at h3; simp at h3
    simp [endB, this]
  · have : ¬ c.ray.length = p.cols.length := by omega
    simp [endB, this]
set_option maxRecDepth 10000 in
theorem qNone_ok (p : Prob) (h : Few p) (hw : ProbW p) (hv : validC p = 0) (c : Clm) (hc : ClW c) : PureF Tryz.prog 113 [.rop (probQ p) 0, clQ c] (bov (noneB p c)) := by
  have nc := h.nc
  have nr := h.nr
  have ny := hc.ny
  have nx := hc.nx
  have nra := hc.nr
  refine pure_enter Tryz.func113 rfl (by simp) (fun C hC => ?_)
  simp
  refine ⟨fun h1 => ⟨fun h2 => ?_, fun h2 => ?_⟩, fun h1 => ?_⟩
  · refine callS (sgnQ c.value) (by simp) ?_
    simp
    refine ⟨fun h3 => by simp [noneB, h3], fun h3 => ⟨fun h4 => ?_, fun h4 => ?_⟩⟩
    · refine callS (qCrossed_ok p h hw) (by simp) ?_
      simp [noneB, h1, h2, h3, h4]
    · refine CodeJ.draw (.qs [0, 1, 2, 3, 4, 5, 6, 7, 8] <| .nil) (by kernel_rfl) (by kernel_rfl) (by simp) ?_
      simp
      refine ⟨fun h5 => ?_, fun h5 => ?_⟩
      · have : ¬ c.y.length = p.rows.length := by omega
        simp [noneB, h4, this]
      · have hl : c.y.length = p.rows.length := by omega
        obtain ⟨v1, v2, v3⟩ := valid_yes hv
        refine callNil ?_
        simp [nlV_clQ, rsv0]
        refine callS (qPoint_ok 0) (by simp) ?_
        simp
        refine callNil ?_
        simp [nlV_clQ, rsv0]
        refine callS (qPoint_ok 0) (by simp) ?_
        simp
        refine CodeJ.loopL (ι := Nat) (fun i => ⟨140, [(0, .rop (probQ p) 0), (3, .ptr 0 0 0), (5, .ptr 1 0 0), (6, .ptr 2 0 0), (51, .ro (p.rows.map rowQ)), (52, iv p.rows.length), (53, iv i)], [some ⟨8, [clQ c], false⟩, some ⟨10, [spQ (noR p c.y i)], false⟩, some ⟨10, [spQ ⟨⟨true, 0⟩, ⟨true, 0⟩⟩], false⟩]⟩)
          (fun i => i ≤ p.rows.length) (fun i => p.rows.length - i) 0 (by simp) ?_ ?_
        · simp [leS, hC, noR]
          done
        · rintro i hi
          by_cases hlt : i < p.rows.length
          · have w1 := spW_noR hw hc.y (by omega) i (by omega)
            have w2 := hw.ro i hlt
            have w3 := hc.y i (by omega)
            simp (disch := omega) [hlt, lget_rowQ]
            repeat (refine And.intro (by omega) ?_)
            refine CodeJ.draw (.qs [0, 1, 2, 3, 4, 5, 6, 7, 8, 9] <| .l 10 [] <| .l 11 [1] <| .nil) (by kernel_rfl) (by kernel_rfl) (by simp) ?_
            simp (disch := omega) [hlt, lget_rowQ, lget_r]
            repeat (refine And.intro (by omega) ?_)
            refine callS (qSpan_ok (noR p c.y i) (gt p.rows i).low (gt p.rows i).high (gt c.y i) ⟨qok_of w1.1 (by omega), qok_of w1.2 (by omega)⟩ (qok_of w2.1 (by omega)) (qok_of w2.2 (by omega)) (qok_of w3 (by omega)) ⟨qok_of (qw_mul w2.1 w3 (by omega)) (by omega), qok_of (qw_mul w2.2 w3 (by omega)) (by omega)⟩) (by simp) ?_
            simp (disch := omega) [w64]
            repeat (refine And.intro (by omega) ?_)
            exact ⟨i + 1, by omega, by omega, Le.syn (by simp (disch := omega) [leS, hC, w64, noR])⟩
          · obtain rfl : i = p.rows.length := by omega
            simp [probQ]
            refine ⟨by omega, ?_⟩
            have fl := frL_len p
            refine CodeJ.loopL (ι := Nat) (fun j => ⟨140, [(0, .rop (probQ p) 0), (3, .ptr 0 0 0), (5, .ptr 1 0 0), (6, .ptr 2 0 0), (9, .ptr 3 0 0), (81, iv p.cols.length), (82, iv j)], [some ⟨8, [clQ c], false⟩, some ⟨10, [spQ (noR p c.y p.rows.length)], false⟩, some ⟨10, [spQ ⟨⟨true, 0⟩, ⟨true, 0⟩⟩], false⟩,
                some ⟨7, [.agg (bov p.max :: ((rsv p.shift).cells ++ [.view 4 0 p.cols.length, .ro (p.rows.map rowQ)]))], false⟩, some ⟨16, frL p j, false⟩]⟩)
              (fun j => j ≤ p.cols.length) (fun j => p.cols.length - j) 0 (by simp) ?_ ?_
            · simp [leS, hC, frL_0, probQ]
              done
            · rintro j hj
              by_cases hjl : j < p.cols.length
              · have a1 := frL_at hjl
                have a2 := frL_set hjl
                have a3 : SV.agg (List.take 12 (colQ (gt p.cols j)).cells ++ .val (.bool false) :: .val (.slice none 0 0) :: .val (.bool false) :: .val (.slice none 0 0) :: List.drop 16 (colQ (gt p.cols j)).cells) = colZn (gt p.cols j) := rfl
                simp (disch := omega) [hjl, fl, a1, w64]
                repeat (refine And.intro (by omega) ?_)
                exact ⟨j + 1, by omega, by omega, Le.syn (by simp (disch := omega) [leS, hC, w64, a3, a2])⟩
              · obtain rfl : j = p.cols.length := by omega
                simp
                refine callNil ?_
                have n1 : ∀ s, nlV (spQ s) = spQ s := fun s => rfl
                simp [nlV_clQ, n1, nlL_rc', frL_nl]
                have fc := free_cols p
                have tk : List.take p.cols.length ((free p).cols.map colQ) = (free p).cols.map colQ := List.take_of_length_le (by simp [fc])
                refine callFz 4 rfl (by simp) ?_
                simp [tset, fc, tk]
                refine callFz 3 rfl (by simp) ?_
                simp [tset]
                have pf : SV.agg (.val (.bool p.max) :: ((rsv p.shift).cells ++ [.ro ((free p).cols.map colQ), .ro (p.rows.map rowQ)])) = probQ (free p) := rfl
                rw [pf]
                have bf : ∀ i, i < (free p).rows.length → badT (free p).cols.length (-1) (gt (free p).rows i).terms = false := fun i hi => by rw [fc]; exact v3 i hi
                refine callS (qPrices_ok (free p) (few_free h) (probW_free hw) v1 (by omega) bf c.y hc.y hl) (by simp) ?_
                simp
                have pl : (pricesP (free p) c.y).length = p.cols.length := by rw [pricesP_len, fc]
                refine CodeJ.loopL (ι := Nat) (fun j => ⟨140, [(0, .rop (probQ p) 0), (5, .ptr 1 0 0), (6, .ptr 2 0 0), (94, .ro ((pricesP (free p) c.y).map rsv)), (95, iv p.cols.length), (96, iv j)], [some ⟨8, [clQ c], false⟩, some ⟨10, [spQ (noR p c.y p.rows.length)], false⟩, some ⟨10, [spQ (noC p c.y j)], false⟩]⟩)
                  (fun j => j ≤ p.cols.length) (fun j => p.cols.length - j) 0 (by simp) ?_ ?_
                · simp [leS, hC, noC, pl]
                · rintro j hj
                  by_cases hjl : j < p.cols.length
                  · have w1 := spW_noC hw hc.y (by omega) v1 j (by omega)
                    have w2 := hw.co j hjl
                    have w3 := qw_neg (qw_dP (probW_free hw) hc.y (show (free p).rows.length ≤ c.y.length by rw [hl]; exact Nat.le_refl _) (show j < (free p).cols.length by omega) p.rows.length (Nat.le_refl _))
                    have w4 := qw_dP (probW_free hw) hc.y (show (free p).rows.length ≤ c.y.length by rw [hl]; exact Nat.le_refl _) (show j < (free p).cols.length by omega) p.rows.length (Nat.le_refl _)
                    have gp : gt (pricesP (free p) c.y) j = dP (free p) c.y j p.rows.length := gt_prices (by omega)
                    simp (disch := omega) [hjl, lget_r, pl, gp]
                    repeat (refine And.intro (by omega) ?_)
                    refine CodeJ.draw (.qs [0, 1, 2, 3, 4, 5, 6, 7, 8, 9, 10, 11, 12, 13, 14, 15, 16, 17] <| .l 18 [] <| .l 19 [] <| .l 20 [2] <| .nil) (by kernel_rfl) (by kernel_rfl) (by simp) ?_
                    simp (disch := omega) [hjl, lget_colQ]
                    repeat (refine And.intro (by omega) ?_)
                    refine callS (qNeg_ok (dP (free p) c.y j p.rows.length)) (by simp) ?_
                    simp
                    refine callS (qSpan_ok (noC p c.y j) (gt p.cols j).low (gt p.cols j).high (-(dP (free p) c.y j p.rows.length)) ⟨qok_of w1.1 (by omega), qok_of w1.2 (by omega)⟩ (qok_of w2.2.1 (by omega)) (qok_of w2.2.2 (by omega)) (qok_of w3 (by omega)) ⟨qok_of (qw_mul w2.2.1 w3 (by omega)) (by omega), qok_of (qw_mul w2.2.2 w3 (by omega)) (by omega)⟩) (by simp) ?_
                    simp (disch := omega) [w64]
                    repeat (refine And.intro (by omega) ?_)
                    exact ⟨j + 1, by omega, by omega, Le.syn (by simp (disch := omega) [leS, hC, w64, noC])⟩
                  · obtain rfl : j = p.cols.length := by omega
                    have wr := spW_noR hw hc.y (by omega) p.rows.length (by omega)
                    have wc := spW_noC hw hc.y (by omega) v1 p.cols.length (by omega)
                    simp
                    have e0 : noneB p c = farkB p c.y := by
                      unfold noneB
                      rw [if_neg (by simpa using h4)]
                      simp [h1, h2, h3, hl]
                    rw [e0]
                    refine ⟨fun q1 => ⟨fun q2 => ?_, fun q2 => by simp [farkB, overB, q1, q2]⟩, fun q1 => by simp [farkB, overB, q1]⟩
                    refine callS (cmpQ _ _ (qok_of wr.1 (by omega)) (qok_of wc.2 (by omega))) (by simp) ?_
                    simp [farkB, overB, q1, q2]
  · have : c.ray ≠ [] := fun e => by rw [e] at h2; simp at h2
    simp [noneB, this]
  · have : c.x ≠ [] := fun e => by rw [e] at h1; simp at h1
    simp [noneB, this]
theorem qCheckE_ok (p : Prob) (h : Few p) (hv : validC p ≠ 0) (c : Clm) : PureF Tryz.prog 46 [.rop (probQ p) 0, clQ c] (.tup [bov false, erV (validC p)]) := by
  have g := qValid_ok p h
  refine pure_enter Tryz.func46 rfl (by simp) (fun C hC => ?_)
  simp
  refine callS (g) (by simp) ?_
  rcases valid_cases p with e | e | e | e
  · exact absurd e hv
  · rw [e, erV_2]; simp
  · rw [e, erV_7]; simp
  · rw [e, erV_4]; simp
set_option maxRecDepth 10000 in
theorem qCheck_ok (p : Prob) (h : Few p) (hw : ProbW p) (hv : validC p = 0) (c : Clm) (hc : ClW c) : PureF Tryz.prog 46 [.rop (probQ p) 0, clQ c] (.tup [bov (chkB p c), .val .nilIface]) := by
  have g := qValid_ok p h
  rw [hv, erV_0] at g
  refine pure_enter Tryz.func46 rfl (by simp) (fun C hC => ?_)
  simp
  refine callS (g) (by simp) ?_
  simp
  refine ⟨fun h1 => ?_, fun h1 => ⟨fun h2 => ?_, fun h2 => ⟨fun h3 => ?_, fun h3 => ?_⟩⟩⟩
  · refine callS (qBest_ok p h hw hv c hc) (by simp) ?_
    simp [chkB, h1]
  · refine callS (qNone_ok p h hw hv c hc) (by simp) ?_
    simp [chkB, h2]
  · refine callS (qEnd_ok p h hw hv c hc) (by simp) ?_
    simp [chkB, h3]
  · simp [chkB, h1, h2, h3]
end Go.Proofs

