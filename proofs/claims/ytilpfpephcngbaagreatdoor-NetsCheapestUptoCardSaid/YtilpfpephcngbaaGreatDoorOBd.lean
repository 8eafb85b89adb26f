/- What the law NetsChecks returns. A text of the prover's own. -/
import Derived.Test.YtilpfpephcngbaaGreatDoorOBb
import Derived.Test.YtilpfpephcngbaaGreatDoorOBc
import Derived.Test.YtilpfpephcngbaaGreatDoorOMt
namespace Go.Sv
open Go
end Go.Sv
namespace Go.Ne
open Go Go.Sv Go.Pl Go.Proofs Go.Tb Go.Ut
structure NWay where
  none : Bool
  flow : List ByteArray
  prices : List ByteArray
  side : List Bool
  cost : ByteArray
def wayV (w : NWay) : SV := .agg ([bov w.none, .ro (w.flow.map strv), .ro (w.prices.map strv), .ro (w.side.map bov), strv w.cost])
@[simp] theorem wayV_csz (w : NWay) : (wayV w).csz = 5 := rfl
@[simp] theorem wayV_isTup (w : NWay) : (wayV w).isTup = false := rfl
@[simp] theorem wayV_isAgg (w : NWay) : (wayV w).isAgg = true := rfl
@[simp] theorem wayV_one (w : NWay) : (wayV w).one = false := rfl
@[simp] theorem wayV_pure (w : NWay) : (wayV w).pure = true := rfl
@[simp] theorem wayV_lt (n : Nat) (w : NWay) : (wayV w).lt n = true := rfl
@[simp] theorem wayV_uses (n : Nat) (w : NWay) : (wayV w).uses n = false := rfl
@[simp] theorem wayV_ks (w : NWay) : (wayV w).ks = [] := rfl
@[simp] theorem wayV_f0 (w : NWay) : lget (wayV w).cells 0 = bov w.none := rfl
@[simp] theorem wayV_f1 (w : NWay) : lget (wayV w).cells 1 = .ro (w.flow.map strv) := rfl
@[simp] theorem wayV_f2 (w : NWay) : lget (wayV w).cells 2 = .ro (w.prices.map strv) := rfl
@[simp] theorem wayV_f3 (w : NWay) : lget (wayV w).cells 3 = .ro (w.side.map bov) := rfl
@[simp] theorem wayV_f4 (w : NWay) : lget (wayV w).cells 4 = strv w.cost := rfl
structure SmW (w : NWay) : Prop where
  f : SmN w.flow
  p : SmN w.prices
  s : w.side.length ≤ 1048576
  c : w.cost.size ≤ 1048576
def s0 : ByteArray := ⟨#[48]⟩
def s1 : ByteArray := ⟨#[49]⟩
def s2 : ByteArray := ⟨#[50]⟩
def s3 : ByteArray := ⟨#[51]⟩
def s4 : ByteArray := ⟨#[52]⟩
def sm3 : ByteArray := ⟨#[45, 51]⟩
def loneS : List ArcS := [⟨0, 1, s2, s1⟩, ⟨0, 1, s3, s4⟩]
theorem n0 : num s0 = 0 := by decide +kernel
theorem n1 : num s1 = 1 := by decide +kernel
theorem n2 : num s2 = 2 := by decide +kernel
theorem n3 : num s3 = 3 := by decide +kernel
theorem lone_sm : SmA loneS := ⟨by decide, fun i hi => by
  match i, hi with
  | 0, _ => decide
  | 1, _ => decide, fun i hi => by
  match i, hi with
  | 0, _ => decide
  | 1, _ => decide⟩
theorem nlV_rsv (q : Rat) : nlV (rsv q) = rsv q := rfl
theorem sm2 {a b : ByteArray} (ha : a.size ≤ 1048576) (hb : b.size ≤ 1048576) : SmN [a, b] := ⟨by simp, fun x hx => by
  simp only [List.mem_cons, List.not_mem_nil, or_false] at hx
  rcases hx with rfl | rfl <;> assumption⟩
end Go.Ne
namespace Go.Proofs
open Go.Sv Go Go.Tb Go.Pl Go.Ut Go.Ne
theorem gLone : PureF Tryz.prog 54 [] (.ro (loneS.map arcS)) := by
  refine pure_enter Tryz.func54 rfl (by simp) (fun C hC => ?_)
  simp [loneS, Ne.arcS, s1, s2, s3, s4]
theorem shortArcs_ok (l : List ArcS) (h : SmA l) : PureC Tryz.prog 124 [.ro (l.map arcS)] (fun x => ∃ b : Bool, x = .val (.bool b) ∧ (b = true → l.length ≤ 20)) := by
  have hl := h.n
  refine pure_enter Tryz.func124 rfl (by simp) (fun C hC => ?_)
  simp
  refine ⟨fun c => fin_b (.inl rfl), fun c => ?_⟩
  refine CodeJ.loop (ι := Nat) (fun i => ⟨29, [(0, .ro (l.map arcS)), (3, iv i)], []⟩)
    (fun i => i ≤ l.length) (fun i => l.length - i) 0 ?_ ?_ ?_
  · simp
  · simp [leS, hC]
  · rintro i hi
    by_cases hlt : i < l.length
    · have h1 := h.cap i hlt
      have h2 := h.cost i hlt
      simp (disch := omega) [hlt, lget_arcS, w64]
      repeat (refine And.intro (by omega) ?_)
      repeat' (apply And.intro <;> intro _)
      all_goals first | exact fin_b (.inl rfl) | exact ⟨i + 1, by omega, by omega, by simp (disch := omega) [leS, hC, w64]⟩
    · obtain rfl : i = l.length := by omega
      simp
      exact fin_b (.inr ⟨rfl, by omega⟩)
end Go.Proofs

