/- Prices and bounds of a problem: plain data, the document's answer. Prices and bounds of a problem: the program's answer. A text of the prover's own. -/
import Derived.Test.YtilpfpephcngbaaGreatDoorLKg
namespace Go.Li
open Go Go.Sv Go.Pl Go.Proofs Go.Tb Go.Ut
def entT : List Term → Nat → Rat
  | [], _ => 0
  | t :: ts, j => if t.col = (j : Int) then t.num else entT ts j
def dP (p : Prob) (y : List Rat) (j : Nat) : Nat → Rat
  | 0 => (gt p.cols j).cost
  | i + 1 => dP p y j i - gt y i * entT (gt p.rows i).terms j
structure BoW (b : Bo) : Prop where
  w : qw 2200 b.at'
/-- numbers of a size that texts have -/
structure ProbW (p : Prob) : Prop where
  sh : qw 2200 p.shift
  co : ∀ j, j < p.cols.length → qw 2200 (gt p.cols j).cost ∧ qw 2200 (gt p.cols j).low.at' ∧ qw 2200 (gt p.cols j).high.at'
  ro : ∀ i, i < p.rows.length → qw 2200 (gt p.rows i).low.at' ∧ qw 2200 (gt p.rows i).high.at'
  te : ∀ i, i < p.rows.length → ∀ k, k < (gt p.rows i).terms.length → qw 2200 (gt (gt p.rows i).terms k).num
/-! between two ends -/
structure Sp where
  lo : Bo
  hi : Bo
def joinB (a b : Bo) (r : Rat) : Bo := if a.has = true ∧ b.has = true then ⟨true, a.at' + b.at' * r⟩ else ⟨false, 0⟩
def plusS (s : Sp) (low high : Bo) (r : Rat) : Sp := if r = 0 then s else if r < 0 then ⟨joinB s.lo high r, joinB s.hi low r⟩ else ⟨joinB s.lo low r, joinB s.hi high r⟩
def spR (p : Prob) (y : List Rat) : Nat → Sp
  | 0 => ⟨⟨true, p.shift⟩, ⟨true, p.shift⟩⟩
  | i + 1 => plusS (spR p y i) (gt p.rows i).low (gt p.rows i).high (gt y i)
def spC (p : Prob) (y : List Rat) : Nat → Sp
  | 0 => spR p y p.rows.length
  | j + 1 => plusS (spC p y j) (gt p.cols j).low (gt p.cols j).high (dP p y j p.rows.length)
def spP (s : Sp) : SV := .agg ((boP s.lo).cells ++ (boP s.hi).cells)
@[simp] theorem spP_csz (s : Sp) : (spP s).csz = 10 := rfl
@[simp] theorem spP_isTup (s : Sp) : (spP s).isTup = false := rfl
@[simp] theorem spP_isAgg (s : Sp) : (spP s).isAgg = true := rfl
@[simp] theorem spP_one (s : Sp) : (spP s).one = false := rfl
@[simp] theorem spP_pure (s : Sp) : (spP s).pure = true := rfl
@[simp] theorem spP_lt (n : Nat) (s : Sp) : (spP s).lt n = true := rfl
@[simp] theorem spP_uses (n : Nat) (s : Sp) : (spP s).uses n = false := rfl
@[simp] theorem spP_ks (s : Sp) : (spP s).ks = [] := rfl
@[simp] theorem spP_f0 (s : Sp) : SV.agg ((spP s).cells.take 5) = boP s.lo := rfl
@[simp] theorem spP_f5 (s : Sp) : SV.agg (((spP s).cells.drop 5).take 5) = boP s.hi := rfl
def spQ (s : Sp) : SV := .agg ((boQ s.lo).cells ++ (boQ s.hi).cells)
@[simp] theorem spQ_csz (s : Sp) : (spQ s).csz = 10 := rfl
@[simp] theorem spQ_isTup (s : Sp) : (spQ s).isTup = false := rfl
@[simp] theorem spQ_isAgg (s : Sp) : (spQ s).isAgg = true := rfl
@[simp] theorem spQ_one (s : Sp) : (spQ s).one = false := rfl
@[simp] theorem spQ_pure (s : Sp) : (spQ s).pure = true := rfl
@[simp] theorem spQ_lt (n : Nat) (s : Sp) : (spQ s).lt n = true := rfl
@[simp] theorem spQ_uses (n : Nat) (s : Sp) : (spQ s).uses n = false := rfl
@[simp] theorem spQ_ks (s : Sp) : (spQ s).ks = [] := rfl
@[simp] theorem spQ_f0 (s : Sp) : SV.agg ((spQ s).cells.take 5) = boQ s.lo := rfl
@[simp] theorem spQ_f5 (s : Sp) : SV.agg (((spQ s).cells.drop 5).take 5) = boQ s.hi := rfl
@[simp] theorem boP_q (b : Bo) : SV.agg (List.take 4 (boP b).cells.tail) = qb b := rfl
@[simp] theorem boQ_q (b : Bo) : SV.agg (List.take 4 (boQ b).cells.tail) = rsv b.at' := rfl
@[simp] theorem probP_sh (p : Prob) : SV.agg (List.take 4 (probP p).cells.tail) = qsv p.shift := rfl
@[simp] theorem probQ_sh (p : Prob) : SV.agg (List.take 4 (probQ p).cells.tail) = rsv p.shift := rfl
@[simp] theorem boP_has (b : Bo) : lget (boP b).cells 0 = .val (.bool b.has) := rfl
end Go.Li
namespace Go.Proofs
open Go.Sv Go Go.Tb Go.Pl Go.Ut Go.Li
end Go.Proofs
namespace Go.Li
open Go Go.Sv Go.Pl Go.Proofs Go.Tb Go.Ut
theorem badT_ok {n : Nat} : ∀ {ts : List Term} {c : Int}, badT n c ts = false → ∀ k, k < ts.length → c < (gt ts k).col ∧ (gt ts k).col < n ∧ (gt ts k).num ≠ 0 ∧ ∀ k', k' < k → (gt ts k').col < (gt ts k).col
  | [], c, _, k, hk => by simp at hk
  | t :: ts, c, h, k, hk => by
    simp only [badT, Bool.or_eq_false_iff, decide_eq_false_iff_not] at h
    obtain ⟨⟨⟨h1, h2⟩, h3⟩, h4⟩ := h
    have ih := badT_ok h4
    cases k with
    | zero => exact ⟨by show c < t.col; omega, by show t.col < n; omega, h3, fun k' h => by omega⟩
    | succ k =>
      obtain ⟨g1, g2, g3, g4⟩ := ih k (by simpa using hk)
      have g1' : t.col < (gt (t :: ts) (k + 1)).col := g1
      refine ⟨by omega, g2, g3, fun k' hk' => ?_⟩
      cases k' with
      | zero => exact g1
      | succ k' => exact g4 k' (by omega)
theorem entT_snoc {t : Term} : ∀ {a : List Term} {j : Nat}, entT (a ++ [t]) j = if t.col = (j : Int) then (if (∀ k, k < a.length → (gt a k).col ≠ (j : Int)) then t.num else entT a j) else entT a j
  | [], j => by simp [entT]
  | u :: a, j => by
    have ih := entT_snoc (t := t) (a := a) (j := j)
    show (if u.col = (j : Int) then u.num else entT (a ++ [t]) j) = _
    by_cases hu : u.col = (j : Int)
    · have : ¬ ∀ k, k < (u :: a).length → (gt (u :: a) k).col ≠ (j : Int) := fun h => h 0 (by simp) hu
      simp only [hu, if_true, if_neg this, entT, ite_self]
    · have e : (∀ k, k < (u :: a).length → (gt (u :: a) k).col ≠ (j : Int)) ↔ ∀ k, k < a.length → (gt a k).col ≠ (j : Int) := by
        constructor
        · exact fun h k hk => h (k + 1) (by simpa using hk)
        · intro h k hk
          cases k with
          | zero => exact hu
          | succ k => exact h k (by simpa using hk)
      simp only [hu, if_false, entT, ih, e]
theorem entT_no : ∀ {a : List Term} {j : Nat}, (∀ k, k < a.length → (gt a k).col ≠ (j : Int)) → entT a j = 0
  | [], j, _ => rfl
  | u :: a, j, h => by
    unfold entT
    rw [if_neg (show ¬ u.col = (j : Int) from h 0 (by simp)), entT_no fun k hk => h (k + 1) (by simpa using hk)]
/-- the prices after i rows, and k terms of the next one -/
def prR (p : Prob) (y : List Rat) (i : Nat) : List Rat := (List.range p.cols.length).map fun j => dP p y j i
def prT (p : Prob) (y : List Rat) (i k : Nat) : List Rat := (List.range p.cols.length).map fun j => dP p y j i - gt y i * entT ((gt p.rows i).terms.take k) j
@[simp] theorem prR_len (p : Prob) (y : List Rat) (i : Nat) : (prR p y i).length = p.cols.length := by simp [prR]
@[simp] theorem prT_len (p : Prob) (y : List Rat) (i k : Nat) : (prT p y i k).length = p.cols.length := by simp [prT]
end Go.Li
namespace Go.Proofs
open Go.Sv Go Go.Tb Go.Pl Go.Ut Go.Li
end Go.Proofs

