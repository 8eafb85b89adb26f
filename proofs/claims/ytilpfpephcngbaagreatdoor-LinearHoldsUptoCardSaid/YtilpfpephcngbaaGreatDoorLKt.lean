/- Problems in texts as plain data. Claims in texts as plain data. A text of the prover's own. -/
import Derived.Test.YtilpfpephcngbaaGreatDoorLKb
import Derived.Test.YtilpfpephcngbaaGreatDoorLMt
import Derived.Test.YtilpfpephcngbaaGreatDoorLKr
namespace Go.Ut
open Go Go.Sv Go.Pl Go.Proofs Go.Tb
theorem sl_len {e : Pt} {x : (Pt.sl e).T} (h1 : ∀ y, 1 ≤ e.bk y) (h : (Pt.sl e).bk x ≤ 1048576) : (show List e.T from x).length ≤ 1048576 := by
  have h' : (List.map e.bk (show List e.T from x)).sum + 1 ≤ 1048576 := h
  exact Nat.le_trans (sum_len (f := e.bk) h1 (l := (show List e.T from x))) (by omega)
theorem sl_mem {e : Pt} {x : (Pt.sl e).T} (h : (Pt.sl e).bk x ≤ 1048576) {y : e.T} (hy : y ∈ (show List e.T from x)) : e.bk y ≤ 1048576 := by
  have h' : (List.map e.bk (show List e.T from x)).sum + 1 ≤ 1048576 := h
  have : e.bk y ≤ _ := sum_mem (f := e.bk) hy
  omega
end Go.Ut
namespace Go.Li
open Go Go.Sv Go.Pl Go.Proofs Go.Tb Go.Ut
def colD : Pt := .pair .str (.pair .bool (.pair .str (.pair .str (.pair .str .unit))))
def rowD : Pt := .pair .str (.pair .str (.pair .str (.pair (.sl (.int .i64)) (.pair textsT .unit))))
def specD : Pt := .pair .bool (.pair .str (.pair (.sl colD) (.pair (.sl rowD) .unit)))
def colOne (y : colD.T) : ColT := ⟨y.1, y.2.1, y.2.2.1, y.2.2.2.1, y.2.2.2.2.1⟩
def rowOne (y : rowD.T) : RowT := ⟨y.1, y.2.1, y.2.2.1, y.2.2.2.1, y.2.2.2.2.1⟩
def colsOf (x : (Pt.sl colD).T) : List ColT := List.map colOne x
def rowsOf (x : (Pt.sl rowD).T) : List RowT := List.map rowOne x
def specOf (y : specD.T) : SpecT := ⟨y.1, y.2.1, colsOf y.2.2.1, rowsOf y.2.2.2.1⟩
theorem spec_sv (x : specD.T) : specD.sv x = specT (specOf x) := by
  have e1 : ∀ l : List colD.T, List.map colT (List.map colOne l) = List.map (fun y => colD.sv y) l := fun l => by rw [List.map_map]; rfl
  have e2 : ∀ l : List rowD.T, List.map rowT (List.map rowOne l) = List.map (fun y => rowD.sv y) l := fun l => by rw [List.map_map]; rfl
  show SV.agg [.val (.bool x.1), .val (.string x.2.1), .ro (List.map (fun y => colD.sv y) x.2.2.1), .ro (List.map (fun y => rowD.sv y) x.2.2.2.1)] = SV.agg [.val (.bool x.1), .val (.string x.2.1), .ro (List.map colT (List.map colOne x.2.2.1)), .ro (List.map rowT (List.map rowOne x.2.2.2.1))]
  have g : ∀ a a' b b' : List SV, a = a' → b = b' → SV.agg [.val (.bool x.1), .val (.string x.2.1), .ro a, .ro b] = SV.agg [.val (.bool x.1), .val (.string x.2.1), .ro a', .ro b'] := fun a a' b b' h1 h2 => by rw [h1, h2]
  exact g _ _ _ _ (e1 _).symm (e2 _).symm
theorem col_bk (y : colD.T) : colD.bk y = (ByteArray.size y.1 + 1) + (1 + ((ByteArray.size y.2.2.1 + 1) + ((ByteArray.size y.2.2.2.1 + 1) + ((ByteArray.size y.2.2.2.2.1 + 1) + 0)))) := rfl
theorem row_bk (y : rowD.T) : rowD.bk y = (ByteArray.size y.1 + 1) + ((ByteArray.size y.2.1 + 1) + ((ByteArray.size y.2.2.1 + 1) + ((Pt.sl (.int .i64)).bk y.2.2.2.1 + (textsT.bk y.2.2.2.2.1 + 0)))) := rfl
theorem spec_bk (y : specD.T) : specD.bk y = 1 + ((ByteArray.size y.2.1 + 1) + ((Pt.sl colD).bk y.2.2.1 + ((Pt.sl rowD).bk y.2.2.2.1 + 0))) := rfl
theorem col_sm {y : colD.T} (h : colD.bk y ≤ 1048576) : SmC (colOne y) := by
  rw [col_bk] at h
  refine ⟨?_, ?_, ?_, ?_⟩
  · show ByteArray.size y.1 ≤ _; omega
  · show ByteArray.size y.2.2.1 ≤ _; omega
  · show ByteArray.size y.2.2.2.1 ≤ _; omega
  · show ByteArray.size y.2.2.2.2.1 ≤ _; omega
theorem row_sm {y : rowD.T} (h : rowD.bk y ≤ 1048576) : SmR (rowOne y) := by
  rw [row_bk] at h
  refine ⟨?_, ?_, ?_, ?_, ?_⟩
  · show ByteArray.size y.1 ≤ _; omega
  · show ByteArray.size y.2.1 ≤ _; omega
  · show ByteArray.size y.2.2.1 ≤ _; omega
  · exact sl_len (e := .int .i64) (x := y.2.2.2.1) (fun _ => Nat.le_refl 1) (by omega)
  · exact texts_sm (x := y.2.2.2.2.1) (by omega)
theorem spec_sm {x : specD.T} (h : specD.bk x ≤ 1048576) : SmS (specOf x) := by
  rw [spec_bk] at h
  have hc : (Pt.sl colD).bk x.2.2.1 ≤ 1048576 := by omega
  have hr : (Pt.sl rowD).bk x.2.2.2.1 ≤ 1048576 := by omega
  refine ⟨?_, ?_, ?_, fun i hi => ?_, fun i hi => ?_⟩
  · show ByteArray.size x.2.1 ≤ _; omega
  · refine Nat.le_trans (Nat.le_of_eq (List.length_map ..)) ?_
    exact sl_len (e := colD) (fun y => by rw [col_bk]; omega) hc
  · refine Nat.le_trans (Nat.le_of_eq (List.length_map ..)) ?_
    exact sl_len (e := rowD) (fun y => by rw [row_bk]; omega) hr
  · obtain ⟨y, hy, e⟩ := List.mem_map.1 (gt_mem hi)
    have e' : gt (specOf x).cols i = colOne y := e.symm
    rw [e']; exact col_sm (sl_mem (e := colD) hc hy)
  · obtain ⟨y, hy, e⟩ := List.mem_map.1 (gt_mem hi)
    have e' : gt (specOf x).rows i = rowOne y := e.symm
    rw [e']; exact row_sm (sl_mem (e := rowD) hr hy)
end Go.Li
namespace Go.Li
open Go Go.Sv Go.Pl Go.Proofs Go.Tb Go.Ut
end Go.Li

