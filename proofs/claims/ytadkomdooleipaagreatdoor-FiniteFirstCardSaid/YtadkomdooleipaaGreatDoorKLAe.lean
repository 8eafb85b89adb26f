/- The law FiniteFirst returns true, whatever the puzzle and the place of a variable, and leaves what it was given as it was. Said of every run of the given program whose package variables hold what the row lists. -/
import Derived.Test.YtadkomdooleipaaGreatDoorKLr
import Derived.Test.YtadkomdooleipaaGreatDoorKOy
import Derived.Test.YtadkomdooleipaaGreatDoorKAs
import Derived.Test.YtadkomdooleipaaGreatDoorCards
import Derived.Test.YtadkomdooleipaaGreatDoorTie
namespace Go.Proofs.YtadkomdooleipaaGreatDoor.finiteFirst
open Go Go.Sv Go.Fn Go.ChangeShapes Go.WideShapes Go.ChangeAt Go.RowKit Go.ChangeMaps

theorem own : ownKnob Tryz.prog.godebug = none := by kernel_rfl
theorem fit0 : Pt.fits Tryz.prog puzT 25 = true := by kernel_rfl
theorem fit1 : Pt.fits Tryz.prog (Pt.int .i64) 3 = true := by kernel_rfl
set_option maxRecDepth 100000 in
theorem contract (H : Type) (enc : TypeId × Value → H) (W : World) (base : Nat) (args : Array Value) (ds gs : List (DataW H)) (before : List MemPlace)
    (hval : ∀ (j : Nat) t v, Tryz.f3.params[j]? = some t → args[j]? = some v → Value.okWide Tryz.prog W .any base t v)
    (hW : DataW.Whole enc Tryz.prog Tryz.f3.params.toList Rows.finiteFirstSpec.vars false W args.toList ds gs before)
    (hz : (DataW.weightsEach Tryz.prog (Tryz.f3.params.toList ++ (OpenSpec.ofChange Rows.finiteFirstSpec).bare.plain.varTypes Tryz.prog) (ds ++ gs)).all (· ≤ reachBytes) = true) (hL : laidMetH Tryz.prog Rows.finiteFirstRow.laid W) :
    Calls Tryz.prog 3 args W fun e W' => ∃ v, e = .returned v ∧ Rows.finiteFirstSpec.post enc Tryz.prog Tryz.f3 false true false false W args v W' := by
  have hW' := hW
  obtain ⟨p, q, hA0, hV, rfl, hfz, hnd⟩ := hW
  have hA : DataW.TrodAll enc Tryz.prog W 0 (fun _ => true) true Tryz.f3.params.toList args.toList ds p := hA0
  have hP := hA
  have hpar : Tryz.f3.params.toList = [25, 3] := rfl
  rw [hpar] at hA hP hz
  obtain ⟨v0, r0, d0, e0, p0, q0, a0, rfl, rfl, h0, hA⟩ := trodAll_cons hA
  obtain ⟨v1, r1, d1, e1, p1, q1, rfl, rfl, rfl, h1, hA⟩ := trodAll_cons hA
  obtain ⟨rfl, rfl, rfl⟩ := trodAll_nil hA
  obtain rfl : args = #[v0, v1] := by cases args; simp_all
  obtain ⟨rfl, rfl⟩ := trodVars_none hV
  have hvars : (OpenSpec.ofChange Rows.finiteFirstSpec).bare.plain.varTypes Tryz.prog = [] := rfl
  rw [hvars, List.append_nil, List.append_nil] at hz
  simp only [DataW.weightsEach, List.append_nil, List.all_append, Bool.and_eq_true] at hz
  obtain ⟨z0, z1⟩ := hz
  obtain ⟨y0, w0, x0⟩ := Pt.openV fit0 (hval 0 25 v0 rfl rfl) h0 z0
  obtain ⟨y1, w1, x1⟩ := Pt.openV fit1 (hval 1 3 v1 rfl rfl) h1 z1
  have walk := calls_of_pureA (by rw [puz_sv, int_sv]; exact finiteFirst_ok (puzOf y0) y1) (Tryz.eok_of_laid hL) (denT_cons x0 (denT_cons x1 denT_nil))
  refine walk.mono fun e W' ⟨he, hg⟩ => ?_
  subst he
  refine ⟨_, rfl, post_below (pa := _) (pv := []) hW' hg (fun _ _ _ => trodAll_cons_mk (shut_bool Tryz.underlying4 _) trodAll_mk0)
    (fun sp hsp => fits_carryAll (pts := [puzT, (Pt.int .i64)]) rfl ?_ hP (fun q hq => ⟨hsp q (List.mem_append_left _ hq), below_sameAt hg (hW'.lt q (List.mem_append_left _ hq))⟩)) (fun _ _ => rfl) rfl
    (ok_one (by kernel_rfl) rfl (okWide_bool_mk Tryz.underlying4 _))⟩
  intro i p t hp ht
  match i, hp, ht with
  | 0, hp, ht => cases hp; cases ht; exact fit0
  | 1, hp, ht => cases hp; cases ht; exact fit1
  | k + 2, hp, ht => simp at hp

abbrev wit : Array Value := #[.agg #[.slice none 0 0, .slice none 0 0], .int .i64 0]
theorem laid_met (os : Os) : laidMetH Tryz.prog Rows.finiteFirstRow.laid ((Tryz.laidWorldE os).forCall (fun _ _ => 0) ⟨#[], wit, []⟩).memory :=
  laidMetH_of_parts (laidMet_of_run' 8 (by kernel_rfl) (by kernel_rfl)) (by kernel_rfl)
theorem reads (os : Os) {H : Type} (enc : TypeId × Value → H) : ∃ places, DataW.whole enc Tryz.prog ((Tryz.laidWorldE os).forCall (fun _ _ => 0) ⟨#[], wit, []⟩).memory Tryz.f3.params.toList Rows.finiteFirstSpec.vars false wit.toList 8 = some ([.agg [.nil, .nil], .lit (.int .i64 0)], [], places) :=
  ⟨[], by kernel_rfl⟩

set_option maxRecDepth 100000 in
theorem lifted (os : Os) (started : os.Started) (H : Type) (enc : TypeId × Value → H) (F : Stop.Interp) :
    ReturnsInHanded {} Tryz.checked os 3 .any ((OpenSpec.ofChange Rows.finiteFirstSpec).preRow enc Tryz.prog Tryz.f3 Rows.finiteFirstRow.domain false Rows.finiteFirstRow.laid) (((OpenSpec.ofChange Rows.finiteFirstSpec).at F).post enc Tryz.prog Tryz.f3 false true false false) := by
  obtain ⟨places, hx⟩ := reads os enc
  refine returnsInHanded_of_row (C := Tryz.checked) (s := OpenSpec.ofChange Rows.finiteFirstSpec) own started (by kernel_rfl) Tryz.func3
    (witness_row_atRef (enc := enc) (C := Tryz.checked) false (Tryz.laidWorldE os) wit rfl (by kernel_rfl) (by kernel_rfl) (by kernel_rfl)
      (OpenSpec.preRow_of_cond 8 hx (by kernel_rfl) (fun k hk => by cases hk) (by kernel_rfl) (laid_met os))) ?_
  intro W base args ds gs before hval hW _ _ hz hL _ _
  exact contract H enc W base args ds gs before hval hW hz hL

theorem said : Rows.FiniteFirstSaid :=
  OpenClaim.holds_of_cond 3 Tryz.f3 rfl rfl rfl rfl rfl rfl rfl ⟨rfl, rfl, rfl, rfl, rfl⟩ rfl rfl rfl rfl rfl (by kernel_rfl) Tryz.func3 (by kernel_rfl)
    (of_decide_eq_true (by kernel_rfl)) (by unfold Func.isWrapper; first | (rw [if_pos (by decide +kernel)]; kernel_rfl) | (rw [if_neg (by decide +kernel)]; exact ⟨rfl, rfl⟩))
    (fun os started H enc _ F => by rw [OpenClaim.pre_eq_preRow]; exact lifted os started H enc F)

theorem plain (f : FuncId) (fn : Func) (hf : Tryz.pinned.checked.prog.funcNamed "optima/optimalaw3.FiniteFirst" = some f) (hfn : Tryz.pinned.checked.prog.funcs[f]? = some fn) :
    true = Tryz.pinned.checked.prog.looks [] ∧ ∀ (j : Nat) t, fn.params[j]? = some t → Tryz.pinned.checked.prog.wantsStandIn t = false := by
  obtain rfl : f = 3 := Option.some.inj ((show Tryz.prog.funcNamed "optima/optimalaw3.FiniteFirst" = some 3 by kernel_rfl).symm.trans hf) |>.symm
  obtain rfl : fn = Tryz.f3 := (Option.some.inj (Tryz.func3.symm.trans hfn)).symm
  have hall : Tryz.f3.params.all (fun t => Tryz.prog.wantsStandIn t == false) = true := by kernel_rfl
  refine ⟨by kernel_rfl, fun j t ht => ?_⟩
  have := Array.all_eq_true'.1 hall t (Array.mem_of_getElem? ht)
  exact eq_of_beq this

theorem card : Rows.FiniteFirstCardSaid :=
  Claim7.holds_tied_plain_at .later [] _ _ _ _ said (fun _ h => by cases h) (by kernel_rfl) (fun _ h => by cases h) finiteFirst_row_tie rfl ⟨rfl, rfl⟩ (by kernel_rfl) rfl plain (by kernel_rfl)
end Go.Proofs.YtadkomdooleipaaGreatDoor.finiteFirst

