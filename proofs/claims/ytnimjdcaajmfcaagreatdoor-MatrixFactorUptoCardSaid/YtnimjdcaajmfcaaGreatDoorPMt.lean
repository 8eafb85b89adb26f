/- Texts and tables of texts as plain data. A text of the prover's own. -/
import Derived.Test.YtnimjdcaajmfcaaGreatDoorPMa
import Derived.Test.YtnimjdcaajmfcaaGreatDoorPDa
namespace Go.Tb
open Go Go.Sv Go.Pl Go.Proofs
def textsT : Pt := .sl .str
def tableT : Pt := .sl textsT
theorem texts_sv (x : textsT.T) : textsT.sv x = .ro ((x : List ByteArray).map strv) := rfl
theorem table_sv (x : tableT.T) : tableT.sv x = .ro ((x : List (List ByteArray)).map tsv) := rfl
theorem sum_mem {α : Type} {f : α → Nat} : ∀ {l : List α} {x : α}, x ∈ l → f x ≤ (l.map f).sum
  | y :: l, x, h => by
    simp only [List.map_cons, List.sum_cons]
    rcases List.mem_cons.1 h with rfl | h
    · omega
    · have := sum_mem (f := f) h
      omega
theorem sum_len {α : Type} {f : α → Nat} (hf : ∀ x, 1 ≤ f x) : ∀ {l : List α}, l.length ≤ (l.map f).sum
  | [] => by simp
  | y :: l => by
    have := sum_len hf (l := l)
    have := hf y
    simp only [List.map_cons, List.sum_cons, List.length_cons]
    omega
theorem texts_sm {x : textsT.T} (h : textsT.bk x ≤ 1048576) : SmN (x : List ByteArray) := by
  have h' : (List.map Pt.str.bk (x : List ByteArray)).sum + 1 ≤ 1048576 := h
  refine ⟨?_, fun s hs => ?_⟩
  · have := sum_len (f := Pt.str.bk) (fun y => by show 1 ≤ ByteArray.size y + 1; omega) (l := (x : List ByteArray))
    exact Nat.le_trans this (by omega)
  · have : Pt.str.bk s ≤ _ := sum_mem (f := Pt.str.bk) hs
    have e : Pt.str.bk s = s.size + 1 := rfl
    omega
theorem table_sm {x : tableT.T} (h : tableT.bk x ≤ 1048576) : SmT (x : List (List ByteArray)) := by
  have h' : (List.map textsT.bk (x : List (List ByteArray))).sum + 1 ≤ 1048576 := h
  refine ⟨?_, fun s hs => texts_sm (x := s) ?_⟩
  · have := sum_len (f := textsT.bk) (fun y => by show 1 ≤ (List.map Pt.str.bk y).sum + 1; omega) (l := (x : List (List ByteArray)))
    exact Nat.le_trans this (by omega)
  · have : textsT.bk s ≤ _ := sum_mem (f := textsT.bk) hs
    exact Nat.le_trans this (by omega)
end Go.Tb

