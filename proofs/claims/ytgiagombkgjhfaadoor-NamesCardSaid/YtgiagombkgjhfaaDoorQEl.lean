/- errors.As at a Fault of package api, by contract: the target's entry comes to hold the Fault. A text of the prover's own. -/
import Derived.Test.YtgiagombkgjhfaaDoorQEk
import Derived.Test.YtgiagombkgjhfaaDoorQEj
namespace Go.Proofs
open Go.Sv Go Go.Pl Go.RowKit
theorem asF_call {C : Ctx} {c a k : Nat} {M : Tab} {x0 : SV} {K : Tab → List Nat → SV → Prop} (hE : EOK C.w0) (hX : C.X = []) (hc : c ≠ 0) (hM : M[k]? = some (some ⟨1, [x0], false⟩))
    (hk : K (M.set k (some ⟨1, [.rop (.agg [.val (.int .i64 a), .sen sent (gErr c)]) 0], false⟩)) [] (.val (.bool true))) :
    CallJ Tryd.prog C 107 [errSV c a, .ifc 135 (.ptr k 0 0)] M none K := by
  intro β H w vals hd hW
  unfold errSV at hd
  rw [if_neg hc] at hd
  simp only [DenT] at hd
  obtain ⟨v1, r1, rfl, h1, v2, r2, rfl, h2, rfl⟩ := hd
  simp only [Den] at h1 h2
  obtain ⟨p, rfl, hp⟩ := h1
  obtain ⟨p2, rfl, d, hd, rfl⟩ := h2
  have hrop : Den β H (.rop (.agg [.val (.int .i64 a), .sen sent (gErr c)]) 0) p := by simp only [Den]; exact hp
  obtain ⟨b, o, cs0, v0, rfl, -, -, -⟩ := hp
  rcases hW.ents k _ hM with ⟨h, -⟩ | ⟨d', cs, T, vs, e1, e2, e3, e4, e5, e6, e7, e8⟩
  · rw [hd] at h; simp at h
  · rw [hd] at e1
    simp only [Option.some.injEq] at e1
    subst e1
    simp only [DenE] at e5
    obtain ⟨u, r, rfl, u1, u2, rfl⟩ := e5
    have hcs : 1 ≤ cs.size := by
      have : (u.cells.toList ++ ([] : List Value)).length = 1 := by simp [u1]
      omega
    have hEw : EOK w := hE.frame fun b hb => hW.frame b hb (by rw [hX]; simp)
    have hcell : w.cell? ⟨d.b, 0, none⟩ = some cs[0] := by rw [cell_of e3]; exact Array.getElem?_eq_getElem (by omega)
    have hfz : w.frozen? ⟨d.b, 0, none⟩ = false := by simp [World.frozen?, e3]
    have hit := as_hit ⟨b, o + 0, none⟩ ⟨d.b, 0, none⟩ cs[0] w hEw.2 hcell hfz
    have hdlt : d.b < w.heap.size := heap_lt e3
    rw [show 0 * d.sz + 0 = 0 by simp]
    refine Calls.mono hit ?_
    generalize hw1 : ((((w.alloc (.cells #[.pointer (some ⟨d.b, 0, none⟩)] 135)).alloc (.cells #[.pointer (some ⟨12, 135, none⟩), .pointer (some ⟨w.heap.size, 0, none⟩), .int .u64 150] 162)).alloc (.cells #[.pointer (some ⟨12, 135, none⟩), .pointer (some ⟨w.heap.size, 0, none⟩), .int .u64 150] 162)).alloc (.cells #[.pointer (some ⟨b, o + 0, none⟩)] 105)) = w1
    have hB : Below w.heap.size w w1 := by
      rw [← hw1]
      exact ((((Below.refl _ _).alloc (Nat.le_refl _) _).alloc (by simp) _).alloc (by simp; omega) _).alloc (by simp; omega) _
    rintro e w' ⟨rfl, rfl⟩
    have hi1 : InvH H w1 := ⟨fun b' cs' hb' => by
      obtain ⟨T', z', h⟩ := hW.inv b' cs' hb'
      exact ⟨T', z', by rw [hB.block b' (heap_lt h)]; exact h⟩, hW.glob⟩
    have hW1 := hW.after hB (fun _ _ h => h) (fun _ _ h => .inl h) hi1
    have h3 : w1.heap[d.b]? = some (.cells cs T (0, 0)) := by rw [hB.block d.b hdlt]; exact e3
    have hWr : Wr w1 d.b (cs.setIfInBounds 0 (.pointer (some ⟨b, o + 0, none⟩))) T (w1.setCell ⟨d.b, 0, none⟩ (.pointer (some ⟨b, o + 0, none⟩))) :=
      ⟨rfl, rfl, rfl, by simp [World.setCell], by simp only [World.setCell]; rw [Array.getElem?_modify]; simp [h3], fun b' hb' => Below.heap_setCell w1 ⟨d.b, 0, none⟩ _ b' hb'⟩
    have hw2 := hW1.write hM rfl hd hWr (by simpa using e4) (es := [.rop (.agg [.val (.int .i64 a), .sen sent (gErr c)]) 0]) (vs := [.pointer (some ⟨b, o + 0, none⟩)])
      (by simp only [DenE]; exact ⟨_, [], rfl, rfl, hrop, rfl⟩) (by simp; omega) (fun i hi => by
        have : i = 0 := by simp at hi; omega
        subst this
        have : 0 < cs.size := hcs
        simp [this])
    exact ⟨β, H, _, _, _, [], rfl, by simp [Den, Value.oneCell'], hw2, fun _ _ _ h => h, fun _ _ h => h, hk, by rw [hWr.size]; exact hB.size, fun ks h => by cases h⟩
