/- A text of the prover's own. -/
import Derived.Test.YtnimjdcaajmfcaaGreatDoorBUb
namespace Go.Proofs
open Go.Sv Go Go.Tb Go.Pl Go.Ut Go.Mx Go.Li Go.Dt Go.Sx
end Go.Proofs
namespace Go.Proofs
open Go.Sv Go Go.Tb Go.Pl Go.Ut Go.Mx Go.Li Go.Dt Go.Sx
end Go.Proofs
namespace Go.Sx
open Go Go.Sv Go.Pl Go.Proofs Go.Tb Go.Ut Go.Mx Go.Li Go.Dt
end Go.Sx
namespace Go.Proofs
open Go.Sv Go Go.Tb Go.Pl Go.Ut Go.Mx Go.Li Go.Dt Go.Sx
end Go.Proofs
namespace Go.Proofs
open Go.Sv Go Go.Tb Go.Pl Go.Ut Go.Mx Go.Li Go.Dt Go.Sx
theorem N4{p:aB}{n m N:Nat}(hm:p.rows.length=m)(hw:cT p)(ord:List Nat):Tw m N 2200 (wx p n m N ord) where
 l:=sr ..
 r i hi:=(Iz p n m N ord).r i hi
 q i k hi hk:=by
  rw[Ih hi hk];unfold yj;split
  ·exact qK (by omega) λq hq=>hw.te i (by omega) q hq
  ·split
   ·exact ay (fh (fg (n:=1) (by omega) (by omega))) (by omega)
   ·exact cL (by omega)
end Go.Proofs

