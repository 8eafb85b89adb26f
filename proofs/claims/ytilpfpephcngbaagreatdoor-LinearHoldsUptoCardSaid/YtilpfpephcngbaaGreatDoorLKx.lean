/- The row that rows make, as plain data: CHVATAL'S CUT: each whole point keeps it. Covers, as plain data: of columns that are too much together not all are 1: each whole point keeps the row. The row that rows make: what the program makes of it, and the document. The row that rows make: what the document makes of it. A text of the prover's own. -/
import Derived.Test.YtilpfpephcngbaaGreatDoorLKo
namespace Go.Li
open Go Go.Sv Go.Pl Go.Proofs Go.Tb Go.Ut
/-- what the rows together have at a column -/
def gS (p : Prob) (y : List Rat) (j : Nat) : Nat → Rat
  | 0 => 0
  | i + 1 => gS p y j i + gt y i * entT (gt p.rows i).terms j
def lessC (p : Prob) (y : List Rat) (j : Nat) : Rat := if (gt p.cols j).whole = true then gS p y j p.rows.length - (gS p y j p.rows.length).floor else gS p y j p.rows.length
def cF (p : Prob) (y : List Rat) (j : Nat) : Rat := gS p y j p.rows.length - lessC p y j
/-! terms -/
/-! the law -/
end Go.Li
namespace Go.Li
open Go Go.Sv Go.Pl Go.Proofs Go.Tb Go.Ut
end Go.Li
namespace Go.Li
open Go Go.Sv Go.Pl Go.Proofs Go.Tb Go.Ut
def crR (p : Prob) (y : List Rat) (i : Nat) : List Rat := (List.range p.cols.length).map fun j => gS p y j i
def crT (p : Prob) (y : List Rat) (i k : Nat) : List Rat := (List.range p.cols.length).map fun j => gS p y j i + gt y i * entT ((gt p.rows i).terms.take k) j
@[simp] theorem crR_len (p : Prob) (y : List Rat) (i : Nat) : (crR p y i).length = p.cols.length := by simp [crR]
@[simp] theorem crT_len (p : Prob) (y : List Rat) (i k : Nat) : (crT p y i k).length = p.cols.length := by simp [crT]
/-- the first j columns done -/
def ccK (p : Prob) (y : List Rat) (j : Nat) : List Rat := (List.range p.cols.length).map fun i => if i < j then cF p y i else gS p y i p.rows.length
@[simp] theorem ccK_len (p : Prob) (y : List Rat) (j : Nat) : (ccK p y j).length = p.cols.length := by simp [ccK]
def rowZ0 : SV := .agg [.val (.string .empty), .ro [], .val (.bool false), .val (.bool false), .ro [], .val (.bool false), .ro [], .val (.bool false), .val (.bool false), .ro [], .val (.bool false), .ro []]
@[simp] theorem rowZ0_csz : rowZ0.csz = 12 := rfl
@[simp] theorem rowZ0_isTup : rowZ0.isTup = false := rfl
@[simp] theorem rowZ0_isAgg : rowZ0.isAgg = true := rfl
@[simp] theorem rowZ0_one : rowZ0.one = false := rfl
@[simp] theorem rowZ0_pure : rowZ0.pure = true := rfl
@[simp] theorem rowZ0_lt (n : Nat) : rowZ0.lt n = true := rfl
@[simp] theorem rowZ0_uses (k : Nat) : rowZ0.uses k = false := rfl
@[simp] theorem rowZ0_ks : rowZ0.ks = [] := rfl
end Go.Li
namespace Go.Proofs
open Go.Sv Go Go.Tb Go.Pl Go.Ut Go.Li
@[simp] theorem fnX_rsv (q : Rat) : fnX (rsv q) = rsv q := rfl
@[simp] theorem fnX_ptr (a b c : Nat) : fnX (.ptr a b c) = .ptr a b c := rfl
end Go.Proofs
namespace Go.Li
open Go Go.Sv Go.Pl Go.Proofs Go.Tb Go.Ut
/-- the first j of one kind, the rest of another one -/
def mixL (f g : Nat → Rat) (n j : Nat) : List Rat := (List.range n).map fun i => if i < j then f i else g i
@[simp] theorem mixL_len (f g : Nat → Rat) (n j : Nat) : (mixL f g n j).length = n := by simp [mixL]
def rowY0 : SV := .agg [.val (.string .empty), .ro [], .ro [], .val (.bool false), .val (.bool false), .ro [], .val (.bool false), .ro [], .val (.bool false), .val (.bool false), .ro [], .val (.bool false), .ro []]
@[simp] theorem rowY0_csz : rowY0.csz = 13 := rfl
@[simp] theorem rowY0_isTup : rowY0.isTup = false := rfl
@[simp] theorem rowY0_isAgg : rowY0.isAgg = true := rfl
@[simp] theorem rowY0_one : rowY0.one = false := rfl
@[simp] theorem rowY0_pure : rowY0.pure = true := rfl
@[simp] theorem rowY0_lt (n : Nat) : rowY0.lt n = true := rfl
@[simp] theorem rowY0_uses (k : Nat) : rowY0.uses k = false := rfl
@[simp] theorem rowY0_ks : rowY0.ks = [] := rfl
end Go.Li
namespace Go.Proofs
open Go.Sv Go Go.Tb Go.Pl Go.Ut Go.Li
end Go.Proofs

