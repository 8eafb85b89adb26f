/- What the document makes of a claim: out of texts; whether it shows itself. What the law WitnessChecks returns. A text of the prover's own. -/
import Derived.Test.YtilpfpephcngbaaGreatDoorLKr
import Derived.Test.YtilpfpephcngbaaGreatDoorLKx
namespace Go.Li
open Go Go.Sv Go.Pl Go.Proofs Go.Tb Go.Ut
theorem sgnAt_le (s : ByteArray) : sgnAt s ≤ s.size := by
  unfold sgnAt; split
  · rename_i h; have := h.1; omega
  · omega
/-- a number that was answered: as long as it likes -/
def sd (s : ByteArray) : Rat × Nat × Nat := qrd (s.size + 1) s
def okSd (s : ByteArray) : Bool := decide ((sd s).2.1 = 0)
def saidB (s : ByteArray) : Bo := if okSd s = true then ⟨true, (sd s).1⟩ else ⟨false, 0⟩
def sds (l : List ByteArray) : List Rat := l.map fun s => (sd s).1
def okSds (l : List ByteArray) : Bool := l.all okSd
def sdX (l : List ByteArray) : List SV := if okSds l = true then (sds l).map qsv else []
def clP (c : Clm) : SV := .agg ([iv c.kind, .ro (c.x.map qsv), .ro (c.y.map qsv), .ro (c.ray.map qsv)] ++ (qsv c.value).cells)
@[simp] theorem clP_csz (c : Clm) : (clP c).csz = 8 := rfl
@[simp] theorem clP_isTup (c : Clm) : (clP c).isTup = false := rfl
@[simp] theorem clP_isAgg (c : Clm) : (clP c).isAgg = true := rfl
@[simp] theorem clP_one (c : Clm) : (clP c).one = false := rfl
@[simp] theorem clP_pure (c : Clm) : (clP c).pure = true := rfl
@[simp] theorem clP_lt (n : Nat) (c : Clm) : (clP c).lt n = true := rfl
@[simp] theorem clP_uses (n : Nat) (c : Clm) : (clP c).uses n = false := rfl
@[simp] theorem clP_ks (c : Clm) : (clP c).ks = [] := rfl
@[simp] theorem clP_f0 (c : Clm) : lget (clP c).cells 0 = iv c.kind := rfl
@[simp] theorem clP_f1 (c : Clm) : lget (clP c).cells 1 = .ro (c.x.map qsv) := rfl
@[simp] theorem clP_f2 (c : Clm) : lget (clP c).cells 2 = .ro (c.y.map qsv) := rfl
@[simp] theorem clP_f3 (c : Clm) : lget (clP c).cells 3 = .ro (c.ray.map qsv) := rfl
@[simp] theorem clP_f4 (c : Clm) : SV.agg (((clP c).cells.drop 4).take 4) = qsv c.value := rfl
@[simp] theorem clP_val (c : Clm) : SV.agg (List.take 4 (clP c).cells.tail.tail.tail.tail) = qsv c.value := rfl
@[simp] theorem clP_val' (c : Clm) : SV.agg (List.take 4 (List.drop 4 (clP c).cells)) = qsv c.value := rfl
def clX (c : ClmT) : SV := .agg ([iv c.kind, .ro (sdX c.x), .ro (sdX c.y), .ro (sdX c.ray)] ++ (qb (saidB c.value)).cells)
@[simp] theorem clX_csz (c : ClmT) : (clX c).csz = 8 := rfl
@[simp] theorem clX_isTup (c : ClmT) : (clX c).isTup = false := rfl
@[simp] theorem clX_isAgg (c : ClmT) : (clX c).isAgg = true := rfl
@[simp] theorem clX_one (c : ClmT) : (clX c).one = false := rfl
@[simp] theorem clX_pure (c : ClmT) : (clX c).pure = true := rfl
@[simp] theorem clX_lt (n : Nat) (c : ClmT) : (clX c).lt n = true := rfl
@[simp] theorem clX_uses (n : Nat) (c : ClmT) : (clX c).uses n = false := rfl
@[simp] theorem clX_ks (c : ClmT) : (clX c).ks = [] := rfl
@[simp] theorem clX_f0 (c : ClmT) : lget (clX c).cells 0 = iv c.kind := rfl
@[simp] theorem clX_f1 (c : ClmT) : lget (clX c).cells 1 = .ro (sdX c.x) := rfl
@[simp] theorem clX_f2 (c : ClmT) : lget (clX c).cells 2 = .ro (sdX c.y) := rfl
@[simp] theorem clX_f3 (c : ClmT) : lget (clX c).cells 3 = .ro (sdX c.ray) := rfl
@[simp] theorem clX_f4 (c : ClmT) : SV.agg (((clX c).cells.drop 4).take 4) = qb (saidB c.value) := rfl
@[simp] theorem spP_g0 (s : Sp) : lget (spP s).cells 0 = .val (.bool s.lo.has) := rfl
@[simp] theorem spP_g5 (s : Sp) : lget (spP s).cells 5 = .val (.bool s.hi.has) := rfl
@[simp] theorem spP_t1 (s : Sp) : SV.agg (List.take 4 (spP s).cells.tail) = qb s.lo := rfl
@[simp] theorem spP_t6 (s : Sp) : SV.agg (List.take 4 (List.drop 6 (spP s).cells)) = qb s.hi := rfl
end Go.Li
namespace Go.Proofs
open Go.Sv Go Go.Tb Go.Pl Go.Ut Go.Li
end Go.Proofs

