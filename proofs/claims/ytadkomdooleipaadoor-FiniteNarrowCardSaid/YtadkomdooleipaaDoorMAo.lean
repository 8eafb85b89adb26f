/- Whether values keep a constraint: the program's way. A text of the prover's own. -/
import Derived.Test.YtadkomdooleipaaDoorMAn
import Derived.Test.YtadkomdooleipaaDoorMAf
namespace Go.Fn
open Go Go.Sv Go.Pl Go.Proofs Go.Tb Go.Ut
def Bd8 (v : Int) : Prop := -100000000 ≤ v ∧ v ≤ 100000000
theorem mul_bd {a b : Int} (ha : Bd8 a) (hb : Bd8 b) : -10000000000000000 ≤ a * b ∧ a * b ≤ 10000000000000000 := by
  have := mul_between (a := a) hb.1 hb.2
  have := ha.1
  have := ha.2
  omega
end Go.Fn
namespace Go.Proofs
open Go.Sv Go Go.Tb Go.Pl Go.Ut Go.Fn
set_option maxRecDepth 10000 in
/-- of lists: does a function say yes of one? -/
theorem slAny_ok (L : List (List Int)) (hl : L.length ≤ 1000000) (F : FuncId) (caps : List SV) (hc : SV.pureL caps = true) (hF : callOK Tryd.prog F) (q : List Int → Bool) (g : ∀ r ∈ L, PureF Tryd.prog F (ilv r :: caps) (bov (q r))) :
    PureF Tryd.prog 42 [.ro (L.map ilv), .fnv F [] caps] (bov (L.any q)) := by
  have gi : PureC Tryd.prog 59 [.ro (L.map ilv), .fnv F [] caps] (fun x => ∃ n : Int, x = iv n ∧ (0 ≤ n ↔ L.any q = true)) := by
    obtain ⟨b, hb⟩ : ∃ b, L.any q = b := ⟨_, rfl⟩
    rw [hb]
    refine pure_enter Tryd.func59 rfl (by simp) (fun C hC => ?_)
    simp [hc]
    refine CodeJ.loop (ι := Nat) (fun i => ⟨19, [(0, .ro (L.map ilv)), (1, .fnv F [] caps), (7, iv L.length), (8, iv i)], []⟩)
      (fun i => i ≤ L.length ∧ ∀ j, j < i → q (gt L j) = false) (fun i => L.length - i) 0 ?_ ?_ ?_
    · exact ⟨by omega, fun j hj => by omega⟩
    · simp [leS, hC]
    rintro i ⟨hi, hf⟩
    by_cases hlt : i < L.length
    · have gg := g _ (gt_mem hlt)
      have yes : q (gt L i) = true → b = true := fun h => by rw [← hb]; exact List.any_eq_true.2 ⟨_, gt_mem hlt, h⟩
      have st := @step_lt (fun j => q (gt L j) = false) i hf
      have lv := lget_ilv hlt
      generalize gt L i = r at *
      simp (disch := omega) [hlt, lv, hF]
      repeat (refine And.intro (by omega) ?_)
      refine callS gg (by simp [hc]) ?_
      simp
      refine ⟨fun e => ?_, fun e => ?_⟩
      · exact ⟨_, by simp, i, rfl, ⟨fun _ => yes e, fun _ => by omega⟩⟩
      · exact ⟨i + 1, ⟨by omega, st e⟩, by omega, by simp (disch := omega) [leS, hC, w64]⟩
    · obtain rfl : i = L.length := by omega
      simp
      refine ⟨_, by simp, -1, rfl, ⟨fun h => by omega, fun h => ?_⟩⟩
      rw [← hb, List.any_eq_true] at h
      obtain ⟨r, hr, h⟩ := h
      obtain ⟨j, hj, rfl⟩ := List.getElem_of_mem hr
      rw [gt_get hj, hf j hj] at h; cases h
  obtain ⟨b, hb⟩ : ∃ b, L.any q = b := ⟨_, rfl⟩
  rw [hb] at gi ⊢
  refine pure_enter Tryd.func42 rfl (by simp) (fun C hC => ?_)
  simp [hc]
  refine callP gi (SubL_self _ _ (by simp [hc])) (fun x hx => ?_)
  obtain ⟨n, rfl, hn⟩ := hx
  simp [hn]
/-- a truth that stands for what is to be shown -/
def TB (P : Prop) (y : SV) : Prop := ∃ b : Bool, y = .val (.bool b) ∧ (b = true ↔ P)
theorem tb_mk {M : Tab} {b : Bool} {P : Prop} (h : b = true ↔ P) : Sv.fin M (.val (.bool b)) (TB P) := ⟨_, by simp, b, rfl, h⟩
end Go.Proofs

