/- Texts of fractions: what a text says; plain. A text of the prover's own; it names no program. -/
import Derived.Test.YtlkaaaoeemejoaaGreatDoorQQa
namespace Go.Pl
open Go Go.Sv
/-- a byte stands there -/
def isAt (s : ByteArray) (i c : Nat) : Prop := i < s.size ∧ byt s i = c
instance (s : ByteArray) (i c : Nat) : Decidable (isAt s i c) := inferInstanceAs (Decidable (_ ∧ _))
def sgnd (s : ByteArray) (n : Nat) : Int := if minus s then -(n : Int) else n
/-- behind an 'e': where the digits begin -/
def expAt (s : ByteArray) (e : Nat) : Nat := if isAt s (e + 1) 45 ∨ isAt s (e + 1) 43 then e + 2 else e + 1
/-- what stands behind the digits: an exponent, or nothing -/
def qtail (s : ByteArray) (num places e : Nat) : Rat × Nat × Nat :=
  if isAt s e 101 then
    if expAt s e + 300 < dend s (expAt s e) then (0, 2, expAt s e + 300)
    else if dend s (expAt s e) = expAt s e ∨ dend s (expAt s e) < s.size then (0, 1, dend s (expAt s e))
    else if 60 < nv s (expAt s e) (s.size - expAt s e) then (0, 2, expAt s e)
    else if isAt s (e + 1) 45 then (Rat.divInt (sgnd s num) ((10 ^ (places + nv s (expAt s e) (s.size - expAt s e)) : Nat) : Int), 0, 0)
    else (Rat.divInt (sgnd s (num * 10 ^ nv s (expAt s e) (s.size - expAt s e))) ((10 ^ places : Nat) : Int), 0, 0)
  else if e < s.size then (0, 1, e)
  else (Rat.divInt (sgnd s num) ((10 ^ places : Nat) : Int), 0, 0)
/-- what a text says as a fraction, of at most m digits in a row: the fraction; a fault's kind (0: none), and where -/
def qrd (m : Nat) (s : ByteArray) : Rat × Nat × Nat :=
  if sgnAt s + m < dend s (sgnAt s) then (0, 2, sgnAt s + m)
  else if dend s (sgnAt s) = sgnAt s then (0, 1, sgnAt s)
  else if isAt s (dend s (sgnAt s)) 47 then
    if dend s (sgnAt s) + 1 + m < dend s (dend s (sgnAt s) + 1) then (0, 2, dend s (sgnAt s) + 1 + m)
    else if dend s (dend s (sgnAt s) + 1) = dend s (sgnAt s) + 1 ∨ dend s (dend s (sgnAt s) + 1) < s.size then (0, 1, dend s (dend s (sgnAt s) + 1))
    else if nv s (dend s (sgnAt s) + 1) (s.size - (dend s (sgnAt s) + 1)) = 0 then (0, 3, dend s (sgnAt s) + 1)
    else (Rat.divInt (sgnd s (nv s (sgnAt s) (dend s (sgnAt s) - sgnAt s))) (nv s (dend s (sgnAt s) + 1) (s.size - (dend s (sgnAt s) + 1)) : Int), 0, 0)
  else if isAt s (dend s (sgnAt s)) 46 then
    if dend s (sgnAt s) + 1 + m < dend s (dend s (sgnAt s) + 1) then (0, 2, dend s (sgnAt s) + 1 + m)
    else if dend s (dend s (sgnAt s) + 1) = dend s (sgnAt s) + 1 then (0, 1, dend s (sgnAt s) + 1)
    else qtail s (nv s (sgnAt s) (dend s (sgnAt s) - sgnAt s) * 10 ^ (dend s (dend s (sgnAt s) + 1) - (dend s (sgnAt s) + 1)) + nv s (dend s (sgnAt s) + 1) (dend s (dend s (sgnAt s) + 1) - (dend s (sgnAt s) + 1)))
      (dend s (dend s (sgnAt s) + 1) - (dend s (sgnAt s) + 1)) (dend s (dend s (sgnAt s) + 1))
  else qtail s (nv s (sgnAt s) (dend s (sgnAt s) - sgnAt s)) 0 (dend s (sgnAt s))
end Go.Pl

