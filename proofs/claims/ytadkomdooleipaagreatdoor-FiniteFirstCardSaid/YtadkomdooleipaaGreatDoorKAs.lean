/- Puzzles and lists of whole numbers as plain data. A text of the prover's own. -/
import Derived.Test.YtadkomdooleipaaGreatDoorKAh
import Derived.Test.YtadkomdooleipaaGreatDoorKDa
namespace Go.Fn
open Go Go.Sv Go.Pl Go.Proofs Go.Tb Go.Ut
def intsT : Pt := .sl (.int .i64)
def rowsT : Pt := .sl intsT
def conT : Pt := .pair (.int .i64) (.pair intsT (.pair intsT (.pair intsT (.pair (.int .i64) (.pair rowsT .unit)))))
def puzT : Pt := .pair rowsT (.pair (.sl conT) .unit)
def conOf (x : conT.T) : Con := ⟨x.1, x.2.1, x.2.2.1, x.2.2.2.1, x.2.2.2.2.1, x.2.2.2.2.2.1⟩
def puzOf (x : puzT.T) : Puz := ⟨x.1, List.map conOf x.2.1⟩
theorem puz_sv (x : puzT.T) : puzT.sv x = puzV (puzOf x) := by
  have e : ∀ l : List conT.T, List.map conV (List.map conOf l) = List.map (fun y => conT.sv y) l := fun l => by rw [List.map_map]; rfl
  show SV.agg [.ro (List.map (fun y => intsT.sv y) x.1), .ro (List.map (fun y => conT.sv y) x.2.1)] = SV.agg [.ro (List.map ilv x.1), .ro (List.map conV (List.map conOf x.2.1))]
  exact congrArg (fun a => SV.agg [.ro (List.map ilv x.1), .ro a]) (e x.2.1).symm
theorem int_sv (x : (Pt.int .i64).T) : (Pt.int .i64).sv x = iv x := rfl
end Go.Fn

