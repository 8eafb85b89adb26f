/- The law FiniteSound returns true, whatever the puzzle and the values, and leaves what it was given as it was. Said of every run of the given program whose package variables hold what the row lists. -/
import Derived.Test.YtadkomdooleipaaDoorPLr
import Derived.Test.YtadkomdooleipaaDoorPOv
import Derived.Test.YtadkomdooleipaaDoorPAs
import Derived.Test.YtadkomdooleipaaDoorCards
import Derived.Test.YtadkomdooleipaaDoorTie
namespace Go.Proofs
open Go Go.Sv Go.ChangeShapes Go.WideShapes Go.RowKit
theorem Tryd.inv_of_laidH {W : World} (h : laidMetH Tryd.prog YtadkomdooleipaaDoor.Rows.finiteSoundRow.laid W) : InvH (H0of W) W := by
  have e1 : (YtadkomdooleipaaDoor.Rows.finiteSoundRow.laid.filter fun x => x.2.handleName?.isSome) = [] := by kernel_rfl
  have e2 : YtadkomdooleipaaDoor.Rows.finiteSoundRow.laid = sentData := by kernel_rfl
  unfold laidMetH at h
  rw [e1] at h
  have h' : laidMet Tryd.prog YtadkomdooleipaaDoor.Rows.finiteSoundRow.laid W := h
  rw [e2] at h'
  exact Tryd.inv_of_laid h'
theorem calls_of_pureF {P : Program} {fn : FuncId} {args : List SV} {b : Bool} (h : PureF P fn args (.val (.bool b))) {W : World} (hW : InvH (H0of W) W) {vals : List Value} (hd : DenT noB (Hall W) args vals) :
    Calls P fn vals.toArray W fun e W' => e = .returned (.bool b) ∧ Below W.heap.size W W' := by
  refine (h (Hall W) W vals (inv_all hW) hd).mono fun e W' ⟨H', v, x, e1, e2, e3, _, _, _, e4⟩ => ?_
  subst e3
  simp only [Den] at e2
  exact ⟨by rw [e1, e2.1], e4⟩
end Go.Proofs
namespace Go.Proofs.YtadkomdooleipaaDoor.finiteSound
open Go Go.Sv Go.Fn Go.ChangeShapes Go.WideShapes Go.ChangeAt Go.RowKit Go.ChangeMaps

theorem own : ownKnob Tryd.prog.godebug = none := by kernel_rfl
theorem fit0 : Pt.fits Tryd.prog puzT 25 = true := by kernel_rfl
theorem fit1 : Pt.fits Tryd.prog intsT 37 = true := by kernel_rfl
set_option maxRecDepth 100000 in
theorem contract (H : Type) (enc : TypeId × Value → H) (W : World) (base : Nat) (args : Array Value) (ds gs : List (DataW H)) (before : List MemPlace)
    (hval : ∀ (j : Nat) t v, Tryd.f5.params[j]? = some t → args[j]? = some v → Value.okWide Tryd.prog W .any base t v)
    (hW : DataW.Whole enc Tryd.prog Tryd.f5.params.toList Rows.finiteSoundSpec.vars false W args.toList ds gs before)
    (hz : (DataW.weightsEach Tryd.prog (Tryd.f5.params.toList ++ (OpenSpec.ofChange Rows.finiteSoundSpec).bare.plain.varTypes Tryd.prog) (ds ++ gs)).all (· ≤ reachBytes) = true) (hL : laidMetH Tryd.prog Rows.finiteSoundRow.laid W) :
    Calls Tryd.prog 5 args W fun e W' => ∃ v, e = .returned v ∧ Rows.finiteSoundSpec.post enc Tryd.prog Tryd.f5 false true false false W args v W' := by
  have hW' := hW
  obtain ⟨p, q, hA0, hV, rfl, hfz, hnd⟩ := hW
  have hA : DataW.TrodAll enc Tryd.prog W 0 (fun _ => true) true Tryd.f5.params.toList args.toList ds p := hA0
  have hP := hA
  have hpar : Tryd.f5.params.toList = [25, 37] := rfl
  rw [hpar] at hA hP hz
  obtain ⟨v0, r0, d0, e0, p0, q0, a0, rfl, rfl, h0, hA⟩ := trodAll_cons hA
  obtain ⟨v1, r1, d1, e1, p1, q1, rfl, rfl, rfl, h1, hA⟩ := trodAll_cons hA
  obtain ⟨rfl, rfl, rfl⟩ := trodAll_nil hA
  obtain rfl : args = #[v0, v1] := by cases args; simp_all
  obtain ⟨rfl, rfl⟩ := trodVars_none hV
  have hvars : (OpenSpec.ofChange Rows.finiteSoundSpec).bare.plain.varTypes Tryd.prog = [] := rfl
  rw [hvars, List.append_nil, List.append_nil] at hz
  simp only [DataW.weightsEach, List.append_nil, List.all_append, Bool.and_eq_true] at hz
  obtain ⟨z0, z1⟩ := hz
  obtain ⟨y0, w0, x0⟩ := Pt.openV fit0 (hval 0 25 v0 rfl rfl) h0 z0
  obtain ⟨y1, w1, x1⟩ := Pt.openV fit1 (hval 1 37 v1 rfl rfl) h1 z1
  have walk := calls_of_pureF (by rw [puz_sv, ints_sv]; exact finiteSound_ok (puzOf y0) y1) (Tryd.inv_of_laidH hL) (denT_cons x0 (denT_cons x1 denT_nil))
  refine walk.mono fun e W' ⟨he, hg⟩ => ?_
  subst he
  refine ⟨_, rfl, post_below (pa := _) (pv := []) hW' hg (fun _ _ _ => trodAll_cons_mk (shut_bool Tryd.underlying4 _) trodAll_mk0)
    (fun sp hsp => fits_carryAll (pts := [puzT, intsT]) rfl ?_ hP (fun q hq => ⟨hsp q (List.mem_append_left _ hq), below_sameAt hg (hW'.lt q (List.mem_append_left _ hq))⟩)) (fun _ _ => rfl) rfl
    (ok_one (by kernel_rfl) rfl (okWide_bool_mk Tryd.underlying4 _))⟩
  intro i p t hp ht
  match i, hp, ht with
  | 0, hp, ht => cases hp; cases ht; exact fit0
  | 1, hp, ht => cases hp; cases ht; exact fit1
  | k + 2, hp, ht => simp at hp

abbrev wit : Array Value := #[.agg #[.slice none 0 0, .slice none 0 0], .slice none 0 0]
theorem laid_met (os : Os) : laidMetH Tryd.prog Rows.finiteSoundRow.laid ((Tryd.laidWorld os).forCall (fun _ _ => 0) ⟨#[], wit, []⟩).memory :=
  laidMetH_of_parts (laidMet_of_run' 8 (by kernel_rfl) (by kernel_rfl)) (by kernel_rfl)
theorem reads (os : Os) {H : Type} (enc : TypeId × Value → H) : ∃ places, DataW.whole enc Tryd.prog ((Tryd.laidWorld os).forCall (fun _ _ => 0) ⟨#[], wit, []⟩).memory Tryd.f5.params.toList Rows.finiteSoundSpec.vars false wit.toList 8 = some ([.agg [.nil, .nil], .nil], [], places) :=
  ⟨[], by kernel_rfl⟩

set_option maxRecDepth 100000 in
theorem lifted (os : Os) (started : os.Started) (H : Type) (enc : TypeId × Value → H) (F : Stop.Interp) :
    ReturnsInHanded {} Tryd.checked os 5 .any ((OpenSpec.ofChange Rows.finiteSoundSpec).preRow enc Tryd.prog Tryd.f5 Rows.finiteSoundRow.domain false Rows.finiteSoundRow.laid) (((OpenSpec.ofChange Rows.finiteSoundSpec).at F).post enc Tryd.prog Tryd.f5 false true false false) := by
  obtain ⟨places, hx⟩ := reads os enc
  refine returnsInHanded_of_row (C := Tryd.checked) (s := OpenSpec.ofChange Rows.finiteSoundSpec) own started (by kernel_rfl) Tryd.func5
    (witness_row_atRef (enc := enc) (C := Tryd.checked) false (Tryd.laidWorld os) wit rfl (by kernel_rfl) (by kernel_rfl) (by kernel_rfl)
      (OpenSpec.preRow_of_cond 8 hx (by kernel_rfl) (fun k hk => by cases hk) (by kernel_rfl) (laid_met os))) ?_
  intro W base args ds gs before hval hW _ _ hz hL _ _
  exact contract H enc W base args ds gs before hval hW hz hL

theorem said : Rows.FiniteSoundSaid :=
  OpenClaim.holds_of_cond 5 Tryd.f5 rfl rfl rfl rfl rfl rfl rfl ⟨rfl, rfl, rfl, rfl, rfl⟩ rfl rfl rfl rfl rfl (by kernel_rfl) Tryd.func5 (by kernel_rfl)
    (of_decide_eq_true (by kernel_rfl)) (by unfold Func.isWrapper; first | (rw [if_pos (by decide +kernel)]; kernel_rfl) | (rw [if_neg (by decide +kernel)]; exact ⟨rfl, rfl⟩))
    (fun os started H enc _ F => by rw [OpenClaim.pre_eq_preRow]; exact lifted os started H enc F)

theorem plain (f : FuncId) (fn : Func) (hf : Tryd.pinned.checked.prog.funcNamed "optima/optimalaw3.FiniteSound" = some f) (hfn : Tryd.pinned.checked.prog.funcs[f]? = some fn) :
    true = Tryd.pinned.checked.prog.looks [] ∧ ∀ (j : Nat) t, fn.params[j]? = some t → Tryd.pinned.checked.prog.wantsStandIn t = false := by
  obtain rfl : f = 5 := Option.some.inj ((show Tryd.prog.funcNamed "optima/optimalaw3.FiniteSound" = some 5 by kernel_rfl).symm.trans hf) |>.symm
  obtain rfl : fn = Tryd.f5 := (Option.some.inj (Tryd.func5.symm.trans hfn)).symm
  have hall : Tryd.f5.params.all (fun t => Tryd.prog.wantsStandIn t == false) = true := by kernel_rfl
  refine ⟨by kernel_rfl, fun j t ht => ?_⟩
  have := Array.all_eq_true'.1 hall t (Array.mem_of_getElem? ht)
  exact eq_of_beq this

theorem card : Rows.FiniteSoundCardSaid :=
  Claim7.holds_tied_plain_at .later [] _ _ _ _ said (fun _ h => by cases h) (by kernel_rfl) (fun _ h => by cases h) finiteSound_row_tie rfl ⟨rfl, rfl⟩ (by kernel_rfl) rfl plain (by kernel_rfl)
end Go.Proofs.YtadkomdooleipaaDoor.finiteSound

