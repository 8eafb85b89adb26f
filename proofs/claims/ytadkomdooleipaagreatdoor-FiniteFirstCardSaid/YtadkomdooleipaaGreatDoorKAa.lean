/- What is used of lists of whole numbers, errors and frozen entries in the walks of functions of puzzles. A text of the prover's own. -/
import Derived.Test.YtadkomdooleipaaGreatDoorKEs
import Derived.Test.YtadkomdooleipaaGreatDoorKSi
namespace Go.Sv
open Go
/-- entry k is not written any more, and the call may read it where its arguments name it -/
theorem callFz {P : Program} {C : Ctx} {f : FuncId} {args : List SV} {M : Tab} {K : Tab → List Nat → SV → Prop} (k : Nat) {e : Ent} (hk : tget M k = some e) (hp : SV.pureL e.es = true)
    (h : CallJ P C f (sbL k e.es args) (sbM k e.es (tset M k (some ⟨e.sz, e.es, true⟩))) none K) : CallJ P C f args M none K := by
  intro β H w vals hd hW
  obtain ⟨H1, h1, h2⟩ := hW.freeze (tget_some hk) hp
  rw [← tset_eq] at h2
  have hk' : tget (tset M k (some ⟨e.sz, e.es, true⟩)) k = some ⟨e.sz, e.es, true⟩ := by
    rw [tget_set _ _ _ _ ⟨e, hk⟩, if_pos rfl]
  have hd1 := sbL_denT (e := ⟨e.sz, e.es, true⟩) h2 hk' rfl (DenT.mono h1 _ _ (fun _ _ _ h => h) hd)
  refine Calls.mono (h β H1 w vals hd1 (h2.sb (e := ⟨e.sz, e.es, true⟩) hk' rfl)) ?_
  rintro e w' ⟨β', H', M', v, x, ks, rfl, g1, g2, g3, g4, g5, g6, g7⟩
  exact ⟨β', H', M', v, x, ks, rfl, g1, g2, g3, fun b cs hb => g4 b cs (h1 b cs hb), g5, g6, fun ks h => by cases h⟩
end Go.Sv
namespace Go.Tb
open Go Go.Sv Go.Pl Go.Proofs
def strv (s : ByteArray) : SV := .val (.string s)
@[simp] theorem strv_val (s : ByteArray) : strv s = .val (.string s) := rfl
def gt {α : Type} [Inhabited α] (l : List α) (i : Nat) : α := l.getD i default
theorem lget_m {α : Type} [Inhabited α] (f : α → SV) {l : List α} {i : Nat} (h : i < l.length) : lget (l.map f) i = f (gt l i) := by
  rw [lget_eq (by simpa using h)]; simp [gt, h]
theorem gt_mem {α : Type} [Inhabited α] {l : List α} {i : Nat} (h : i < l.length) : gt l i ∈ l := by
  simp only [gt, List.getD_eq_getElem?_getD, List.getElem?_eq_getElem h, Option.getD_some]; exact List.getElem_mem h
theorem take_gt {α : Type} [Inhabited α] {l : List α} {i : Nat} (h : i < l.length) : l.take (i + 1) = l.take i ++ [gt l i] := by
  rw [List.take_succ_eq_append_getElem h]; simp [gt, h]
theorem sbL_app {k : Nat} {es : List SV} : ∀ {l r : List SV}, sbL k es (l ++ r) = sbL k es l ++ sbL k es r
  | [], r => rfl
  | x :: l, r => by simp [sbL_app]
theorem step_lt {q : Nat → Prop} {i : Nat} (h : ∀ k, k < i → q k) (h' : q i) : ∀ k, k < i + 1 → q k := fun k hk => by
  rcases Nat.lt_or_ge k i with g | g
  · exact h k g
  · obtain rfl : k = i := by omega
    exact h'
end Go.Tb
namespace Go.Ut
open Go Go.Sv Go.Pl Go.Proofs Go.Tb
@[simp] theorem Sub_same {M : Tab} {x : SV} (h : x.pure = true) : Sv.Sub M x x = True := eq_true (Sub_self M x h)
@[simp] theorem usesL_app {k : Nat} {a b : List SV} : SV.usesL k (a ++ b) = (SV.usesL k a || SV.usesL k b) := by
  induction a with
  | nil => simp
  | cons x a ih => simp [ih, Bool.or_assoc]
@[simp] theorem pureL_app {a b : List SV} : SV.pureL (a ++ b) = (SV.pureL a && SV.pureL b) := by
  induction a with
  | nil => simp
  | cons x a ih => simp [ih, Bool.and_assoc]
@[simp] theorem ltL_app {k : Nat} {a b : List SV} : SV.ltL k (a ++ b) = (SV.ltL k a && SV.ltL k b) := by
  induction a with
  | nil => simp
  | cons x a ih => simp [ih, Bool.and_assoc]
theorem gt_get {α : Type} [Inhabited α] {l : List α} {i : Nat} (h : i < l.length) : l[i] = gt l i := by
  unfold gt; rw [List.getD_eq_getElem?_getD, List.getElem?_eq_getElem h]; rfl
theorem drop_gt {α : Type} [Inhabited α] {l : List α} {i : Nat} (h : i < l.length) : l.drop i = gt l i :: l.drop (i + 1) := by
  rw [List.drop_eq_getElem_cons h, gt_get h]
theorem gt_map {α β : Type} [Inhabited α] [Inhabited β] (f : α → β) {l : List α} {i : Nat} (h : i < l.length) : gt (l.map f) i = f (gt l i) := by
  simp [gt, h]
theorem gt_set {α : Type} [Inhabited α] {l : List α} {i j : Nat} {x : α} (h : j < l.length) : gt (l.set i x) j = if i = j then x else gt l j := by
  have h' : j < (l.set i x).length := by simpa using h
  rw [← gt_get h', List.getElem_set]
  split
  · rfl
  · exact gt_get h
theorem gt_app {α : Type} [Inhabited α] {l r : List α} {j : Nat} (h : j < l.length) : gt (l ++ r) j = gt l j := by
  simp [gt, List.getElem?_append_left h]
theorem ext_gt' {α : Type} [Inhabited α] {a b : List α} (hl : a.length = b.length) (h : ∀ i, i < a.length → gt a i = gt b i) : a = b := by
  refine List.ext_getElem hl fun i h1 h2 => ?_
  rw [gt_get h1, gt_get h2]; exact h i h1
def iv (n : Int) : SV := .val (.int .i64 n)
@[simp] theorem iv_val (n : Int) : iv n = .val (.int .i64 n) := rfl
def ilv (l : List Int) : SV := .ro (l.map iv)
@[simp] theorem ilv_val (l : List Int) : ilv l = .ro (l.map iv) := rfl
def bov (b : Bool) : SV := .val (.bool b)
@[simp] theorem bov_val (b : Bool) : bov b = .val (.bool b) := rfl
theorem lget_iv {l : List Int} {i : Nat} (h : i < l.length) : lget (l.map iv) i = iv (gt l i) := lget_m _ h
theorem lget_ilv {l : List (List Int)} {i : Nat} (h : i < l.length) : lget (l.map ilv) i = ilv (gt l i) := lget_m _ h
@[simp] theorem okE_iv (l : List Int) : okE 1 (l.map iv) = True := by cases l <;> simp [okE]
@[simp] theorem okE_ilv (l : List (List Int)) : okE 1 (l.map ilv) = True := by cases l <;> simp [okE]
@[simp] theorem okE_bov (l : List Bool) : okE 1 (l.map bov) = True := by cases l <;> simp [okE]
def erV (c : Nat) : SV := if c = 0 then .val .nilIface else .sen sent (gs (c - 1))
theorem erV_0 : erV 0 = .val .nilIface := rfl
theorem erV_2 : erV 2 = .sen sent 1 := rfl
theorem erV_4 : erV 4 = .sen sent 0 := rfl
@[simp] theorem binP_erV {P : Program} {op : BinOp} {t : TypeId} {c : Nat} {oy : Operand} {y : Option SV} : evBinP P op t (some (erV c)) oy y = evBinO op (tyOf P t) (some (erV c)) oy y := by unfold erV; split <;> rfl
@[simp] theorem erV_csz (c : Nat) : (erV c).csz = 1 := by unfold erV; split <;> rfl
@[simp] theorem erV_isTup (c : Nat) : (erV c).isTup = false := by unfold erV; split <;> rfl
@[simp] theorem erV_isAgg (c : Nat) : (erV c).isAgg = false := by unfold erV; split <;> rfl
@[simp] theorem erV_one (c : Nat) : (erV c).one = true := by unfold erV; split <;> rfl
@[simp] theorem erV_pure (c : Nat) : (erV c).pure = true := by unfold erV; split <;> rfl
@[simp] theorem erV_lt (n c : Nat) : (erV c).lt n = true := by unfold erV; split <;> rfl
@[simp] theorem erV_uses (k c : Nat) : (erV c).uses k = false := by unfold erV; split <;> rfl
@[simp] theorem erV_ks (c : Nat) : (erV c).ks = [] := by unfold erV; split <;> rfl
end Go.Ut
namespace Go.Proofs
open Go.Sv Go Go.Tb Go.Pl Go.Ut
theorem coded3_ok {c : Nat} (hc : 0 < c) (hc' : c ≤ 10) (n : Int) : PureE Tryz.prog 10 [erV c, .val (.int .i64 n)] (fun x => x = .val (.bool (decide ((c : Int) = n)))) := by
  refine pureE_enter Tryz.func10 rfl (by simp) (fun C hC hX hE => ?_)
  refine CodeJ.go ?_
  have cs := codeS_ok (j := c - 1) (by omega)
  have e : erV c = .sen sent (gs (c - 1)) := by unfold erV; rw [if_neg (by omega)]
  rw [show c - 1 + 1 = c by omega] at cs
  rw [e]
  simp
  refine callE cs hE hX (by simp) (fun x hx => ?_)
  subst hx
  simp
end Go.Proofs

