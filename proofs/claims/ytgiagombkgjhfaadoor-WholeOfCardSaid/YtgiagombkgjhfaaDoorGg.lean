/- What the document's functions four and Text return. A text of the prover's own. -/
import Derived.Test.YtgiagombkgjhfaaDoorGf
namespace Go.Proofs
open Go.Sv Go Go.Pl
/-- a text of these bytes -/
def sb (L : List Nat) : ByteArray := strOf (L.map u8)
theorem sb_data (L : List Nat) : (sb L).data.toList = L.map UInt8.ofNat := by
  unfold sb strOf
  rw [strOfNums_data]
  simp [svInt]
theorem sb_app (L R : List Nat) : sb L ++ sb R = sb (L ++ R) := by
  apply ByteArray.ext
  apply Array.toList_inj.1
  simp [sb_data]
@[simp] theorem sb_size (L : List Nat) : (sb L).size = L.length := by
  have := congrArg List.length (sb_data L)
  simpa using this
theorem sb_get {L : List Nat} {i : Nat} (h : i < L.length) (hL : ∀ d ∈ L, d < 256) : (sget (sb L) i).toNat = dg L i := by
  unfold sget
  rw [Array.getD_eq_getD_getElem?, ← Array.getElem?_toList, sb_data]
  simp [h, dg, List.getD_eq_getElem?_getD]
  exact hL _ (List.getElem_mem h)
theorem sb_tail (x : Nat) (L : List Nat) : (sb (x :: L)).extract 1 (L.length + 1) = sb L := by
  apply ByteArray.ext
  apply Array.toList_inj.1
  simp [sb_data, ByteArray.data_extract]
  exact List.take_of_length_le (by simp)
/-- four decimal digits, the lowest first -/
def f4 (x : Nat) : List Nat := [x % 10, x / 10 % 10, x / 100 % 10, x / 1000]
def L4 (l : List Nat) : List Nat := l.flatMap f4
theorem L4_val (l : List Nat) : val 10 (L4 l) = val 10000 l := by
  induction l with
  | nil => rfl
  | cons x l ih =>
    have e : L4 (x :: l) = f4 x ++ L4 l := rfl
    rw [e]
    simp only [f4, List.cons_append, List.nil_append, val, ih]
    omega
theorem L4_lt {l : List Nat} (h : ∀ d ∈ l, d < 10000) : ∀ d ∈ L4 l, d < 10 := by
  intro d hd
  obtain ⟨x, hx, hd⟩ := List.mem_flatMap.1 hd
  have := h x hx
  simp [f4] at hd
  omega
theorem L4_len (l : List Nat) : (L4 l).length = 4 * l.length := by
  induction l with
  | nil => rfl
  | cons x l ih =>
    have e : L4 (x :: l) = f4 x ++ L4 l := rfl
    rw [e]; simp [ih, f4]; omega
theorem tmodG {x y : Int} (h : 0 ≤ x) : x.tmod y = x % y := Int.tmod_eq_emod_of_nonneg h
theorem svInt_u8 (x : Nat) : SV.val (.int .u8 (x : Int)) = u8 x := rfl
set_option maxRecDepth 10000 in
theorem rFour_ok (x : Nat) (hx : x < 10000) : PureF Tryd.prog 78 [.val (.int .i64 x)] (.val (.string (sb ((f4 x).reverse.map (48 + ·))))) := by
  refine pure_enter Tryd.func78 rfl (by simp) (fun C hC => ?_)
  obtain ⟨a, ha⟩ : ∃ a, a = 48 + x / 1000 := ⟨_, rfl⟩
  obtain ⟨b, hb⟩ : ∃ b, b = 48 + x / 100 % 10 := ⟨_, rfl⟩
  obtain ⟨c, hc⟩ : ∃ c, c = 48 + x / 10 % 10 := ⟨_, rfl⟩
  obtain ⟨d, hd⟩ : ∃ d, d = 48 + x % 10 := ⟨_, rfl⟩
  have e1 : (48 + (x : Int) / 1000) % 256 = a := by omega
  have e2 : (48 + (x : Int) / 100 % 10) % 256 = b := by omega
  have e3 : (48 + (x : Int) / 10 % 10) % 256 = c := by omega
  have e4 : (48 + (x : Int) % 10) % 256 = d := by omega
  have e5 : (f4 x).reverse.map (48 + ·) = [a, b, c, d] := by simp [f4, ha, hb, hc, hd]
  have e6 : sb [a, b, c, d] = strOf [.val (.int .u8 a), .val (.int .u8 b), .val (.int .u8 c), .val (.int .u8 d)] := rfl
  rw [e5, e6]
  simp (disch := omega) [w64, tdivG, tmodG, u8w, e1, e2, e3, e4]
  simp [byteSV]
theorem L4_top {l : List Nat} {i : Nat} (h : i < l.length) : L4 (l.drop i) = f4 (dg l i) ++ L4 (l.drop (i + 1)) := by
  rw [List.drop_eq_getElem_cons h]
  have : dg l i = l[i] := by simp [dg, List.getD_eq_getElem?_getD, h]
  rw [this]; rfl
theorem strip_val {l : List Nat} {n : Nat} (h : trimL l = dig 10 n) (hn : n ≠ 0) : l ≠ [] := by
  rintro rfl
  have := (dig_eq_nil (by omega)).1 h.symm
  omega
set_option maxRecDepth 20000 in
theorem rText_ok (x : Int) (hx : rfit x) : PureF Tryd.prog 17 [nsv x] (.val (.string (txt x))) := by
  refine pure_enter Tryd.func17 rfl (by simp) (fun C hC => ?_)
  by_cases h0 : x = 0
  · subst h0
    simp [nsv, dig_zero]
    rfl
  · have hn : x.natAbs ≠ 0 := by omega
    have hne : ¬ (dig 10000 x.natAbs) = [] := fun h => hn ((dig_eq_nil (by omega)).1 h)
    have ha := dig_lt (B := 10000) (by omega) x.natAbs
    have hv := val_dig (B := 10000) (by omega) x.natAbs
    have hl : (dig 10000 x.natAbs).length ≤ 1000000000000 := hx
    simp [nsv]
    generalize dig 10000 x.natAbs = a at *
    have hal : ¬ a.length = 0 := fun h => hne (List.length_eq_zero_iff.1 h)
    simp (disch := omega) [hne, hal, w64]
    refine CodeJ.loop (ι := Nat) (fun i => ⟨35, [(1, .ptr 0 0 0), (3, .val (.string (sb ((L4 (a.drop i)).reverse.map (48 + ·))))), (4, .val (.int .i64 ((i : Int) - 1)))],
        [some ⟨2, [.agg [.val (.bool (decide (x < 0))), .ro (a.map i64)]], false⟩]⟩)
      (fun i => i ≤ a.length) (fun i => i) a.length ?_ ?_ ?_
    · exact Nat.le_refl _
    · simp [leS, hC]
      rfl
    · intro i hi
      cases i with
      | zero =>
        have fin : txt x = sb ((if x < 0 then [45] else []) ++ (dig 10 x.natAbs).reverse.map (48 + ·)) := by unfold txt txtL; rw [if_neg h0]; rfl
        have tr : trimL (L4 a) = dig 10 x.natAbs := by rw [← dig_val (by omega) _ (L4_lt ha), L4_val, hv]
        simp
        refine CodeJ.loop (ι := List Nat) (fun l => ⟨35, [(1, .ptr 0 0 0), (3, .val (.string (sb (l.map (48 + ·)).reverse)))],
            [some ⟨2, [.agg [.val (.bool (decide (x < 0))), .ro (a.map i64)]], false⟩]⟩)
          (fun l => l.length ≤ 4 * a.length ∧ (∀ d ∈ l, d < 10) ∧ trimL l = dig 10 x.natAbs) (fun l => l.length) (L4 a) ?_ ?_ ?_
        · exact ⟨by rw [L4_len]; omega, L4_lt ha, tr⟩
        · simp [leS, hC]
        · rintro l ⟨g1, g2, g3⟩
          rcases List.eq_nil_or_concat l with rfl | ⟨zs, z, rfl⟩
          · exact absurd rfl (strip_val g3 hn)
          · rw [List.concat_eq_append] at g1 g2 g3 ⊢
            have hz : z < 10 := g2 z (by simp)
            have g5 : ∀ d ∈ zs, d < 10 := fun d hd => g2 d (by simp [hd])
            have hz2 : ∀ d ∈ (48 + z) :: (zs.map (48 + ·)).reverse, d < 256 := by
              intro d hd
              rcases List.mem_cons.1 hd with rfl | hd
              · omega
              · obtain ⟨e, he, rfl⟩ := List.mem_map.1 (List.mem_reverse.1 hd)
                have := g5 e he
                omega
            have g6 : (sget (sb ((48 + z) :: (zs.map (48 + ·)).reverse)) 0).toNat = 48 + z := by rw [sb_get (by simp) hz2]; rfl
            simp at g1
            by_cases z0 : z = 0
            · subst z0
              rw [trimL_zero] at g3
              have g7 := sb_tail 48 (zs.map (48 + ·)).reverse
              simp at g6 g7
              simp [g6, g7]
              exact ⟨by omega, zs, ⟨by omega, g5, g3⟩, by omega, by simp [leS, hC]⟩
            · have g8 : ¬ ((48 : Int) + z = 48) := by omega
              rw [trimL_snoc _ z0] at g3
              rw [← g3] at fin
              simp at fin
              simp [g6, z0, g8]
              have g9 : ({ data := #[45] } : ByteArray).size = 1 := rfl
              have g10 : ({ data := #[45] } : ByteArray) = sb [45] := rfl
              refine ⟨fun hneg => ⟨by omega, ?_⟩, fun hpos => ?_⟩
              · rw [fin, if_pos hneg, g10, sb_app]
              · rw [fin, if_neg (by omega), List.nil_append]
      | succ i =>
        have bx := dg_lt ha (by omega) i
        simp (disch := omega) [w64, lget_i64]
        refine ⟨by omega, ?_⟩
        refine callF (rFour_ok (dg a i) bx) (by simp) ?_
        have e8 := L4_top (l := a) (i := i) (by omega)
        simp (disch := omega) [w64, sb_app, L4_len]
        exact ⟨by simp [f4]; omega, i, by omega, by omega, by simp [leS, hC, e8]⟩
end Go.Proofs
