/- What is used of numbers, comparisons, errors and frozen entries in the walks of functions of problems, nets and puzzles. A text of the prover's own. -/
import Derived.Test.YtnimjdcaajmfcaaGreatDoorPMa
import Derived.Test.YtnimjdcaajmfcaaGreatDoorPEs
namespace Go.Sv
open Go
/-- entry k is not written any more, and the call may read it where its arguments name it -/
theorem callFz {P : Program} {C : Ctx} {f : FuncId} {args : List SV} {M : Tab} {K : Tab → List Nat → SV → Prop} (k : Nat) {e : Ent} (hk : tget M k = some e) (hp : SV.pureL e.es = true)
    (h : CallJ P C f (sbL k e.es args) (sbM k e.es (tset M k (some ⟨e.sz, e.es, true⟩))) none K) : CallJ P C f args M none K := by
  intro β H w vals hd hW
  obtain ⟨H1, h1, h2⟩ := hW.freeze (tget_some hk) hp
  rw [← tset_eq] at h2
  have hk' : tget (tset M k (some ⟨e.sz, e.es, true⟩)) k = some ⟨e.sz, e.es, true⟩ := by
    rw [tget_set _ _ _ _ ⟨e, hk⟩, if_pos rfl]
  have hd1 := sbL_denT (e := ⟨e.sz, e.es, true⟩) h2 hk' rfl (DenT.mono h1 _ _ (fun _ _ _ h => h) hd)
  refine Calls.mono (h β H1 w vals hd1 (h2.sb (e := ⟨e.sz, e.es, true⟩) hk' rfl)) ?_
  rintro e w' ⟨β', H', M', v, x, ks, rfl, g1, g2, g3, g4, g5, g6, g7⟩
  exact ⟨β', H', M', v, x, ks, rfl, g1, g2, g3, fun b cs hb => g4 b cs (h1 b cs hb), g5, g6, fun ks h => by cases h⟩
end Go.Sv
namespace Go.Ut
open Go Go.Sv Go.Pl Go.Proofs Go.Tb
@[simp] theorem Sub_same {M : Tab} {x : SV} (h : x.pure = true) : Sv.Sub M x x = True := eq_true (Sub_self M x h)
/-! numbers of the program and of the document -/
@[simp] theorem rc_len (q : Rat) : (rsv q).cells.length = 4 := rfl
@[simp] theorem qc_len (q : Rat) : (qsv q).cells.length = 4 := rfl
@[simp] theorem rc_take (q : Rat) (r : List SV) : List.take 4 ((rsv q).cells ++ r) = (rsv q).cells := rfl
@[simp] theorem qc_take (q : Rat) (r : List SV) : List.take 4 ((qsv q).cells ++ r) = (qsv q).cells := rfl
@[simp] theorem rc_take' (q : Rat) (r : List SV) (n : Nat) : List.take (n + 4) ((rsv q).cells ++ r) = (rsv q).cells ++ List.take n r := rfl
@[simp] theorem qc_take' (q : Rat) (r : List SV) (n : Nat) : List.take (n + 4) ((qsv q).cells ++ r) = (qsv q).cells ++ List.take n r := rfl
@[simp] theorem rc_drop (q : Rat) (r : List SV) (n : Nat) : List.drop (n + 4) ((rsv q).cells ++ r) = List.drop n r := rfl
@[simp] theorem qc_drop (q : Rat) (r : List SV) (n : Nat) : List.drop (n + 4) ((qsv q).cells ++ r) = List.drop n r := rfl
@[simp] theorem rc_pure (q : Rat) : SV.pureL (rsv q).cells = true := rfl
@[simp] theorem rc_uses (q : Rat) (k : Nat) : SV.usesL k (rsv q).cells = false := rfl
@[simp] theorem rc_lt (q : Rat) (k : Nat) : SV.ltL k (rsv q).cells = true := rfl
@[simp] theorem rc_ks (q : Rat) : SV.ksL (rsv q).cells = [] := rfl
@[simp] theorem qc_pure (q : Rat) : SV.pureL (qsv q).cells = true := rfl
@[simp] theorem qc_uses (q : Rat) (k : Nat) : SV.usesL k (qsv q).cells = false := rfl
@[simp] theorem qc_lt (q : Rat) (k : Nat) : SV.ltL k (qsv q).cells = true := rfl
@[simp] theorem qc_ks (q : Rat) : SV.ksL (qsv q).cells = [] := rfl
@[simp] theorem usesL_app {k : Nat} {a b : List SV} : SV.usesL k (a ++ b) = (SV.usesL k a || SV.usesL k b) := by
  induction a with
  | nil => simp
  | cons x a ih => simp [ih, Bool.or_assoc]
@[simp] theorem pureL_app {a b : List SV} : SV.pureL (a ++ b) = (SV.pureL a && SV.pureL b) := by
  induction a with
  | nil => simp
  | cons x a ih => simp [ih, Bool.and_assoc]
@[simp] theorem ltL_app {k : Nat} {a b : List SV} : SV.ltL k (a ++ b) = (SV.ltL k a && SV.ltL k b) := by
  induction a with
  | nil => simp
  | cons x a ih => simp [ih, Bool.and_assoc]
theorem sbV_rsv {k : Nat} {es : List SV} (q : Rat) : sbV k es (rsv q) = rsv q := sbV_pure _ _ _ rfl
theorem rsv0 : SV.agg [.val (.bool false), .ro [], .val (.bool false), .ro []] = rsv 0 := by simp [rsv, dig_zero]
theorem gt_get {α : Type} [Inhabited α] {l : List α} {i : Nat} (h : i < l.length) : l[i] = gt l i := by
  unfold gt; rw [List.getD_eq_getElem?_getD, List.getElem?_eq_getElem h]; rfl
theorem gt_map {α β : Type} [Inhabited α] [Inhabited β] (f : α → β) {l : List α} {i : Nat} (h : i < l.length) : gt (l.map f) i = f (gt l i) := by
  simp [gt, h]
theorem gt_set {α : Type} [Inhabited α] {l : List α} {i j : Nat} {x : α} (h : j < l.length) : gt (l.set i x) j = if i = j then x else gt l j := by
  have h' : j < (l.set i x).length := by simpa using h
  rw [← gt_get h', List.getElem_set]
  split
  · rfl
  · exact gt_get h
theorem ext_gt' {α : Type} [Inhabited α] {a b : List α} (hl : a.length = b.length) (h : ∀ i, i < a.length → gt a i = gt b i) : a = b := by
  refine List.ext_getElem hl fun i h1 h2 => ?_
  rw [gt_get h1, gt_get h2]; exact h i h1
theorem gt_nums {l : List ByteArray} {i : Nat} (h : i < l.length) : gt (nums l) i = num (gt l i) := by simp [gt, nums, h]
/-! whole numbers, truths -/
def iv (n : Int) : SV := .val (.int .i64 n)
@[simp] theorem iv_val (n : Int) : iv n = .val (.int .i64 n) := rfl
def ilv (l : List Int) : SV := .ro (l.map iv)
@[simp] theorem ilv_val (l : List Int) : ilv l = .ro (l.map iv) := rfl
def bov (b : Bool) : SV := .val (.bool b)
@[simp] theorem bov_val (b : Bool) : bov b = .val (.bool b) := rfl
@[simp] theorem okE_iv (l : List Int) : okE 1 (l.map iv) = True := by cases l <;> simp [okE]
@[simp] theorem okE_ilv (l : List (List Int)) : okE 1 (l.map ilv) = True := by cases l <;> simp [okE]
@[simp] theorem okE_bov (l : List Bool) : okE 1 (l.map bov) = True := by cases l <;> simp [okE]
/-! lists filled from the front -/
theorem nlL_rep {n : Nat} {x : SV} : nlL (List.replicate n x) = List.replicate n (nlV x) := by
  induction n with
  | zero => rfl
  | succ n ih => simp [List.replicate_succ, ih]
/-! how numbers compare -/
def cmpv (x y : Rat) : Int := if x < y then -1 else if y < x then 1 else 0
theorem cmpv_cases (x y : Rat) : (x < y ∧ cmpv x y = -1) ∨ (y < x ∧ cmpv x y = 1) ∨ (x = y ∧ cmpv x y = 0) := by
  unfold cmpv
  by_cases h1 : x < y
  · exact .inl ⟨h1, by rw [if_pos h1]⟩
  · by_cases h2 : y < x
    · exact .inr (.inl ⟨h2, by rw [if_neg h1, if_pos h2]⟩)
    · exact .inr (.inr ⟨Rat.le_antisymm (Rat.not_lt.1 h2) (Rat.not_lt.1 h1), by rw [if_neg h1, if_neg h2]⟩)
@[simp] theorem cmpv_lt0 {x y : Rat} : cmpv x y < 0 ↔ x < y := by rcases cmpv_cases x y with ⟨h, e⟩ | ⟨h, e⟩ | ⟨h, e⟩ <;> rw [e] <;> constructor <;> grind
@[simp] theorem cmpv_gt0 {x y : Rat} : 0 < cmpv x y ↔ y < x := by rcases cmpv_cases x y with ⟨h, e⟩ | ⟨h, e⟩ | ⟨h, e⟩ <;> rw [e] <;> constructor <;> grind
@[simp] theorem cmpv_le0 {x y : Rat} : cmpv x y ≤ 0 ↔ x ≤ y := by rcases cmpv_cases x y with ⟨h, e⟩ | ⟨h, e⟩ | ⟨h, e⟩ <;> rw [e] <;> constructor <;> grind
@[simp] theorem cmpv_ge0 {x y : Rat} : 0 ≤ cmpv x y ↔ y ≤ x := by rcases cmpv_cases x y with ⟨h, e⟩ | ⟨h, e⟩ | ⟨h, e⟩ <;> rw [e] <;> constructor <;> grind
@[simp] theorem cmpv_eq0 {x y : Rat} : cmpv x y = 0 ↔ x = y := by rcases cmpv_cases x y with ⟨h, e⟩ | ⟨h, e⟩ | ⟨h, e⟩ <;> rw [e] <;> constructor <;> grind
def sgv (q : Rat) : Int := q.num.sign
theorem num_neg {q : Rat} : q.num < 0 ↔ q < 0 := by rw [← Int.not_le, ← Rat.not_le, Rat.num_nonneg]
theorem num_pos {q : Rat} : 0 < q.num ↔ 0 < q := by
  have h0 : q.num = 0 ↔ q = 0 := Rat.num_eq_zero
  have h1 := Rat.num_nonneg (q := q)
  constructor
  · intro h; have := h1.1 (by omega); rcases Rat.le_iff_lt_or_eq.1 this with h' | h'
    · exact h'
    · have := h0.2 h'.symm; omega
  · intro h; have := h1.2 (Rat.le_of_lt h); have h2 : q.num ≠ 0 := fun e => by rw [h0] at e; rw [e] at h; exact Rat.lt_irrefl h
    omega
@[simp] theorem sgv_lt0 {q : Rat} : sgv q < 0 ↔ q < 0 := by unfold sgv; rw [Int.sign_neg_iff, num_neg]
@[simp] theorem sgv_gt0 {q : Rat} : 0 < sgv q ↔ 0 < q := by unfold sgv; rw [Int.sign_pos_iff, num_pos]
@[simp] theorem sgv_eq0 {q : Rat} : sgv q = 0 ↔ q = 0 := by unfold sgv; rw [Int.sign_eq_zero_iff_zero, Rat.num_eq_zero]
@[simp] theorem sgv_le0 {q : Rat} : sgv q ≤ 0 ↔ q ≤ 0 := by rw [← Int.not_lt, ← Rat.not_lt, sgv_gt0]
@[simp] theorem sgv_ge0 {q : Rat} : 0 ≤ sgv q ↔ 0 ≤ q := by rw [← Int.not_lt, ← Rat.not_lt, sgv_lt0]
/-- the numbers have at most k limbs -/
def Wd (k : Nat) (w : List Rat) : Prop := ∀ i, i < w.length → qw k (gt w i)
theorem qw_zero (k : Nat) (h : 1 ≤ k) : qw k 0 := by
  have := qw_int (k := k) (x := 0) (fw_zero k) h
  simpa using this
theorem qw_small {n : Int} (h : -4294967296 < n) (h' : n < 4294967296) : qw 1 (n : Rat) := qw_int (wid_le (by omega) (by omega)) (by omega)
/-! errors by number -/
def erV (c : Nat) : SV := if c = 0 then .val .nilIface else .sen sent (gs (c - 1))
theorem erV_4 : erV 4 = .sen sent 0 := rfl
@[simp] theorem binP_erV {P : Program} {op : BinOp} {t : TypeId} {c : Nat} {oy : Operand} {y : Option SV} : evBinP P op t (some (erV c)) oy y = evBinO op (tyOf P t) (some (erV c)) oy y := by unfold erV; split <;> rfl
@[simp] theorem erV_csz (c : Nat) : (erV c).csz = 1 := by unfold erV; split <;> rfl
@[simp] theorem erV_isTup (c : Nat) : (erV c).isTup = false := by unfold erV; split <;> rfl
@[simp] theorem erV_isAgg (c : Nat) : (erV c).isAgg = false := by unfold erV; split <;> rfl
@[simp] theorem erV_one (c : Nat) : (erV c).one = true := by unfold erV; split <;> rfl
@[simp] theorem erV_pure (c : Nat) : (erV c).pure = true := by unfold erV; split <;> rfl
@[simp] theorem erV_lt (n c : Nat) : (erV c).lt n = true := by unfold erV; split <;> rfl
@[simp] theorem erV_uses (k c : Nat) : (erV c).uses k = false := by unfold erV; split <;> rfl
@[simp] theorem erV_ks (c : Nat) : (erV c).ks = [] := by unfold erV; split <;> rfl
end Go.Ut
namespace Go.Proofs
open Go.Sv Go Go.Tb Go.Pl Go.Ut
theorem cmpP (x y : Rat) (hx : qok x) (hy : qok y) : PureF Tryz.prog 83 [qsv x, qsv y] (.val (.int .i64 (cmpv x y))) := pCmp_ok x y hx hy
theorem sgnP (q : Rat) : PureF Tryz.prog 14 [qsv q] (.val (.int .i64 (sgv q))) := pSign_ok q
theorem zeroP : PureF Tryz.prog 46 [.val (.int .i64 0)] (qsv 0) := pInt_ok 0 (by omega) (by omega)
end Go.Proofs

