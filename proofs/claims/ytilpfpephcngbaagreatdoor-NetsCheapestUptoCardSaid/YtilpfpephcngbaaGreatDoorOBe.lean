/- The arguments of the law NetsChecks as plain data. A text of the prover's own. -/
import Derived.Test.YtilpfpephcngbaaGreatDoorOBd
namespace Go.Ut
open Go Go.Sv Go.Pl Go.Proofs Go.Tb
theorem int_sv (x : (Pt.int .i64).T) : (Pt.int .i64).sv x = iv x := rfl
theorem sl_len {e : Pt} {x : (Pt.sl e).T} (h1 : ∀ y, 1 ≤ e.bk y) (h : (Pt.sl e).bk x ≤ 1048576) : (show List e.T from x).length ≤ 1048576 := by
  have h' : (List.map e.bk (show List e.T from x)).sum + 1 ≤ 1048576 := h
  exact Nat.le_trans (sum_len (f := e.bk) h1 (l := (show List e.T from x))) (by omega)
theorem sl_mem {e : Pt} {x : (Pt.sl e).T} (h : (Pt.sl e).bk x ≤ 1048576) {y : e.T} (hy : y ∈ (show List e.T from x)) : e.bk y ≤ 1048576 := by
  have h' : (List.map e.bk (show List e.T from x)).sum + 1 ≤ 1048576 := h
  have : e.bk y ≤ _ := sum_mem (f := e.bk) hy
  omega
end Go.Ut
namespace Go.Ne
open Go Go.Sv Go.Pl Go.Proofs Go.Tb Go.Ut
def arcT : Pt := .pair (.int .i64) (.pair (.int .i64) (.pair .str (.pair .str .unit)))
def arcsT : Pt := .sl arcT
def arcOne (y : arcT.T) : ArcS := ⟨y.1, y.2.1, y.2.2.1, y.2.2.2.1⟩
def arcOfs (x : arcsT.T) : List ArcS := List.map arcOne x
theorem arcs_sv (x : arcsT.T) : arcsT.sv x = .ro ((arcOfs x).map arcS) := by
  have e : ∀ l : List arcT.T, List.map arcS (List.map arcOne l) = List.map (fun y => arcT.sv y) l := fun l => by rw [List.map_map]; rfl
  show SV.ro (List.map (fun y => arcT.sv y) x) = SV.ro (List.map arcS (List.map arcOne x))
  exact congrArg SV.ro (e x).symm
theorem arc_bk (y : arcT.T) : arcT.bk y = 1 + (1 + ((ByteArray.size y.2.2.1 + 1) + ((ByteArray.size y.2.2.2.1 + 1) + 0))) := rfl
theorem arcs_sm {x : arcsT.T} (h : arcsT.bk x ≤ 1048576) : SmA (arcOfs x) where
  n := by
    refine Nat.le_trans (Nat.le_of_eq (List.length_map ..)) ?_
    exact sl_len (e := arcT) (fun y => by rw [arc_bk]; omega) h
  cap i hi := by
    obtain ⟨y, hy, e⟩ := List.mem_map.1 (gt_mem hi)
    have := sl_mem (e := arcT) h hy
    rw [arc_bk] at this
    have e2 : (gt (arcOfs x) i).cap = y.2.2.1 := (congrArg ArcS.cap e).symm
    rw [e2]; omega
  cost i hi := by
    obtain ⟨y, hy, e⟩ := List.mem_map.1 (gt_mem hi)
    have := sl_mem (e := arcT) h hy
    rw [arc_bk] at this
    have e2 : (gt (arcOfs x) i).cost = y.2.2.2.1 := (congrArg ArcS.cost e).symm
    rw [e2]; omega
end Go.Ne

