/- The law MatrixFactor returns true, whatever the table in texts, the columns in texts and the place of a column, if these are together of bulk at most 1048576, and leaves what it was given as it was: the table taken apart, and it with other columns, solves from both sides and knows its determinant. Said of every run of the given program whose package variables hold what the row lists. -/
import Derived.Test.YtnimjdcaajmfcaaGreatDoorPLr
import Derived.Test.YtnimjdcaajmfcaaGreatDoorPYl
import Derived.Test.YtnimjdcaajmfcaaGreatDoorCards
import Derived.Test.YtnimjdcaajmfcaaGreatDoorTie
namespace Go.Proofs.YtnimjdcaajmfcaaGreatDoor.matrixFactor
open Go Go.Sv Go.Tb Go.Ut Go.ChangeShapes Go.WideShapes Go.ChangeAt Go.RowKit Go.ChangeMaps

theorem own : ownKnob Tryz.prog.godebug = none := by kernel_rfl
theorem fit0 : Pt.fits Tryz.prog tableT 22 = true := by kernel_rfl
theorem fit1 : Pt.fits Tryz.prog textsT 23 = true := by kernel_rfl
theorem fit2 : Pt.fits Tryz.prog textsT 23 = true := by kernel_rfl
theorem fit3 : Pt.fits Tryz.prog (.int .i64) 3 = true := by kernel_rfl
theorem fit4 : Pt.fits Tryz.prog textsT 23 = true := by kernel_rfl
theorem bkR {H : Type} : Bk (Hh := H) Rows.uptoBulk Rows.uptoBulkAll := ⟨fun l => by cases l <;> simp [Rows.uptoBulk], fun b => by simp [Rows.uptoBulk], by simp [Rows.uptoBulk], fun e r => by simp [Rows.uptoBulk], fun l => by simp [Rows.uptoBulk], by simp [Rows.uptoBulkAll], fun d r => by simp [Rows.uptoBulkAll]⟩
set_option maxRecDepth 100000 in
theorem contract (H : Type) (enc : TypeId × Value → H) (W : World) (base : Nat) (args : Array Value) (ds gs : List (DataW H)) (before : List MemPlace)
    (hval : ∀ (j : Nat) t v, Tryz.f3.params[j]? = some t → args[j]? = some v → Value.okWide Tryz.prog W .any base t v)
    (hW : DataW.Whole enc Tryz.prog Tryz.f3.params.toList Rows.matrixFactorSpec.vars false W args.toList ds gs before)
    (hz : (DataW.weightsEach Tryz.prog (Tryz.f3.params.toList ++ (OpenSpec.ofChange Rows.matrixFactorSpec).bare.plain.varTypes Tryz.prog) (ds ++ gs)).all (· ≤ reachBytes) = true) (hk : Rows.uptoSmall H (ds ++ gs) = true) (hL : laidMetH Tryz.prog Rows.matrixFactorUptoRow.laid W) :
    Calls Tryz.prog 3 args W fun e W' => ∃ v, e = .returned v ∧ Rows.matrixFactorSpec.post enc Tryz.prog Tryz.f3 false true false false W args v W' := by
  have hW' := hW
  obtain ⟨p, q, hA0, hV, rfl, hfz, hnd⟩ := hW
  have hA : DataW.TrodAll enc Tryz.prog W 0 (fun _ => true) true Tryz.f3.params.toList args.toList ds p := hA0
  have hP := hA
  have hpar : Tryz.f3.params.toList = [22, 23, 23, 3, 23] := rfl
  rw [hpar] at hA hP hz
  obtain ⟨v0, r0, d0, e0, p0, q0, a0, rfl, rfl, h0, hA⟩ := trodAll_cons hA
  obtain ⟨v1, r1, d1, e1, p1, q1, rfl, rfl, rfl, h1, hA⟩ := trodAll_cons hA
  obtain ⟨v2, r2, d2, e2, p2, q2, rfl, rfl, rfl, h2, hA⟩ := trodAll_cons hA
  obtain ⟨v3, r3, d3, e3, p3, q3, rfl, rfl, rfl, h3, hA⟩ := trodAll_cons hA
  obtain ⟨v4, r4, d4, e4, p4, q4, rfl, rfl, rfl, h4, hA⟩ := trodAll_cons hA
  obtain ⟨rfl, rfl, rfl⟩ := trodAll_nil hA
  obtain rfl : args = #[v0, v1, v2, v3, v4] := by cases args; simp_all
  obtain ⟨rfl, rfl⟩ := trodVars_none hV
  have hvars : (OpenSpec.ofChange Rows.matrixFactorSpec).bare.plain.varTypes Tryz.prog = [] := rfl
  rw [hvars, List.append_nil, List.append_nil] at hz
  have hb := of_decide_eq_true hk
  simp only [List.append_nil, Rows.uptoBulkAll, Nat.add_zero] at hb
  simp only [DataW.weightsEach, List.append_nil, List.all_append, Bool.and_eq_true] at hz
  obtain ⟨z0, z1, z2, z3, z4⟩ := hz
  obtain ⟨y0, w0, x0, k0⟩ := Pt.openK fit0 (hval 0 22 v0 rfl rfl) h0 z0
  obtain ⟨y1, w1, x1, k1⟩ := Pt.openK fit1 (hval 1 23 v1 rfl rfl) h1 z1
  obtain ⟨y2, w2, x2, k2⟩ := Pt.openK fit2 (hval 2 23 v2 rfl rfl) h2 z2
  obtain ⟨y3, w3, x3, k3⟩ := Pt.openK fit3 (hval 3 3 v3 rfl rfl) h3 z3
  obtain ⟨y4, w4, x4, k4⟩ := Pt.openK fit4 (hval 4 23 v4 rfl rfl) h4 z4
  have k0 := Nat.le_trans (k0 _ _ bkR) (show Rows.uptoBulk d0 ≤ 1048576 by omega)
  have k1 := Nat.le_trans (k1 _ _ bkR) (show Rows.uptoBulk d1 ≤ 1048576 by omega)
  have k2 := Nat.le_trans (k2 _ _ bkR) (show Rows.uptoBulk d2 ≤ 1048576 by omega)
  have k3 := Nat.le_trans (k3 _ _ bkR) (show Rows.uptoBulk d3 ≤ 1048576 by omega)
  have k4 := Nat.le_trans (k4 _ _ bkR) (show Rows.uptoBulk d4 ≤ 1048576 by omega)
  have walk := calls_of_pureA ((by rw [table_sv, texts_sv, texts_sv, intF_sv, texts_sv]; exact matrixFactor_ok y0 y1 y2 y3 y4 (table_sm k0) (texts_sm k1) (texts_sm k2) (texts_sm k4))) (Tryz.eok_of_laid hL) (denT_cons x0 (denT_cons x1 (denT_cons x2 (denT_cons x3 (denT_cons x4 denT_nil)))))
  refine walk.mono fun e W' ⟨he, hg⟩ => ?_
  subst he
  refine ⟨_, rfl, post_below (pa := _) (pv := []) hW' hg (fun _ _ _ => trodAll_cons_mk (shut_bool Tryz.underlying4 _) trodAll_mk0)
    (fun sp hsp => fits_carryAll (pts := [tableT, textsT, textsT, (.int .i64), textsT]) rfl ?_ hP (fun q hq => ⟨hsp q (List.mem_append_left _ hq), below_sameAt hg (hW'.lt q (List.mem_append_left _ hq))⟩)) (fun _ _ => rfl) rfl
    (ok_one (by kernel_rfl) rfl (okWide_bool_mk Tryz.underlying4 _))⟩
  intro i p t hp ht
  match i, hp, ht with
  | 0, hp, ht => cases hp; cases ht; exact fit0
  | 1, hp, ht => cases hp; cases ht; exact fit1
  | 2, hp, ht => cases hp; cases ht; exact fit2
  | 3, hp, ht => cases hp; cases ht; exact fit3
  | 4, hp, ht => cases hp; cases ht; exact fit4
  | k + 5, hp, ht => simp at hp

abbrev wit : Array Value := #[.slice none 0 0, .slice none 0 0, .slice none 0 0, .int .i64 0, .slice none 0 0]
theorem laid_met (os : Os) : laidMetH Tryz.prog Rows.matrixFactorUptoRow.laid ((Tryz.laidWorldE os).forCall (fun _ _ => 0) ⟨#[], wit, []⟩).memory :=
  laidMetH_of_parts (laidMet_of_run' 8 (by kernel_rfl) (by kernel_rfl)) (by kernel_rfl)
theorem reads (os : Os) {H : Type} (enc : TypeId × Value → H) : ∃ places, DataW.whole enc Tryz.prog ((Tryz.laidWorldE os).forCall (fun _ _ => 0) ⟨#[], wit, []⟩).memory Tryz.f3.params.toList Rows.matrixFactorSpec.vars false wit.toList 8 = some ([.nil, .nil, .nil, .lit (.int .i64 0), .nil], [], places) :=
  ⟨[], by kernel_rfl⟩

set_option maxRecDepth 100000 in
theorem lifted (os : Os) (started : os.Started) (H : Type) (enc : TypeId × Value → H) (F : Stop.Interp) :
    ReturnsInHanded {} Tryz.checked os 3 .any ((Rows.OpenSpec.upto Rows.matrixFactorSpec).preRow enc Tryz.prog Tryz.f3 Rows.matrixFactorUptoRow.domain false Rows.matrixFactorUptoRow.laid) (((Rows.OpenSpec.upto Rows.matrixFactorSpec).at F).post enc Tryz.prog Tryz.f3 false true false false) := by
  obtain ⟨places, hx⟩ := reads os enc
  refine returnsInHanded_of_row (C := Tryz.checked) (s := Rows.OpenSpec.upto Rows.matrixFactorSpec) own started (by kernel_rfl) Tryz.func3
    (witness_row_atRef (enc := enc) (C := Tryz.checked) false (Tryz.laidWorldE os) wit rfl (by kernel_rfl) (by kernel_rfl) (by kernel_rfl)
      (OpenSpec.preRow_of_cond 8 hx (by kernel_rfl) (fun k hk => by cases hk; kernel_rfl) (by kernel_rfl) (laid_met os))) ?_
  intro W base args ds gs before hval hW _ hc hz hL _ _
  exact contract H enc W base args ds gs before hval hW hz (hc _ rfl) hL

theorem joined_of {P : Program} {f : FuncId} {fn : Func} {s : ChangeSpec} {c : OpenClaim}
    (h1 : (c.wf (OpenSpec.ofChange s) && laidOutB P && mapsRowed P && fn.params.all (P.readableRec ·) && namedTie P c.named s.vars && (c.stops == []) && (P.stops == []) && (c.knobs == []) && (P.stopKnobs == [])) = true)
    (h2 : (c.inPlace == P.inPlace f) = true) (h3 : (c.unfollowed == P.unfollowed f) = true) (h4 : (c.recurses == P.recurses f) = true) (h5 : (c.named == P.varsNamed f) = true)
    (h6 : ((c.maps == (fn.params.toList ++ s.plain.varTypes P).any (P.mapsRec ·)) && (c.ifaces == (fn.params.toList ++ s.plain.varTypes P).any (P.ifacesRec ·)) && (c.mapsOut == P.mapsAmong fn.resultTypes.toList) && (c.loops == (fn.params.toList ++ s.plain.varTypes P).any (P.loopsFrom ·)) && (c.wideKeys == (fn.params.toList ++ s.plain.varTypes P ++ fn.resultTypes.toList).any (P.wideKeysFrom ·)) && s.vars.all (P.varReadable ·) && fn.resultTypes.all (fun t => P.readableRec t && decide (t < P.types.size)) && (c.ifacesOut == fn.resultTypes.toList.any (P.ifacesRec ·)) && (c.loopsOut == fn.resultTypes.toList.any (P.loopsFrom ·))) = true)
    (h7 : ((c.plainKeys == P.plainKeys) && c.shortTexts.isNone && P.stopsHeard && P.mayEnter && (c.lifted == P.liftsFinal) && (P.make == some c.make) && (c.kinds == (if c.domain.isEmpty then [] else fn.params.toList.map fun t => match P.underlying t with | some (.int k) => some k | _ => none)) && (c.pinned == c.pinnedBy) && (c.veiled == (fn.params.toList ++ s.plain.varTypes P ++ fn.resultTypes.toList).any (P.veiledRec ·)) && c.veiledFits P fn.params.toList (fn.params.toList ++ s.plain.varTypes P ++ fn.resultTypes.toList)) = true) :
    joinedFacts P f fn s c = true := by
  unfold joinedFacts
  rw [Bool.and_eq_true] at *
  simp only [Bool.and_eq_true, and_assoc] at h1 h6 h7 ⊢
  obtain ⟨a1, a2, a3, a4, a5, a6, a7, a8, a9⟩ := h1
  obtain ⟨b1, b2, b3, b4, b5, b6, b7, b8, b9⟩ := h6
  obtain ⟨c1, c2, c3, c4, c5, c6, c7, c8, c9, c10⟩ := h7
  exact ⟨a1, a2, a3, a4, a5, a6, a7, a8, a9, h2, h3, h4, h5, b1, b2, b3, b4, b5, b6, b7, b8, b9, c1, c2, c3, c4, c5, c6, c7, c8, c9, c10⟩
theorem part2 : (Rows.matrixFactorUptoRow.inPlace == Tryz.prog.inPlace 3) = true := by kernel_rfl
theorem part3 : (Rows.matrixFactorUptoRow.unfollowed == Tryz.prog.unfollowed 3) = true := by kernel_rfl
theorem part4 : (Rows.matrixFactorUptoRow.recurses == Tryz.prog.recurses 3) = true := by kernel_rfl
theorem part5 : (Rows.matrixFactorUptoRow.named == Tryz.prog.varsNamed 3) = true := by kernel_rfl
theorem closed : joinedFacts Tryz.prog 3 Tryz.f3 (Rows.OpenSpec.upto Rows.matrixFactorSpec).bare Rows.matrixFactorUptoRow = true :=
  joined_of (by kernel_rfl) part2 part3 part4 part5 (by kernel_rfl) (by kernel_rfl)
theorem said : Rows.MatrixFactorUptoSaid :=
  OpenClaim.holds_of_cond 3 Tryz.f3 rfl rfl rfl rfl rfl rfl rfl ⟨rfl, rfl, rfl, rfl, rfl⟩ rfl rfl rfl rfl rfl (by kernel_rfl) Tryz.func3 closed
    (of_decide_eq_true (by kernel_rfl)) (by unfold Func.isWrapper; first | (rw [if_pos (by decide +kernel)]; kernel_rfl) | (rw [if_neg (by decide +kernel)]; exact ⟨rfl, rfl⟩))
    (fun os started H enc _ F => by rw [OpenClaim.pre_eq_preRow]; exact lifted os started H enc F)

theorem plain (f : FuncId) (fn : Func) (hf : Tryz.pinned.checked.prog.funcNamed "optima/optimalaw1.MatrixFactor" = some f) (hfn : Tryz.pinned.checked.prog.funcs[f]? = some fn) :
    true = Tryz.pinned.checked.prog.looks [] ∧ ∀ (j : Nat) t, fn.params[j]? = some t → Tryz.pinned.checked.prog.wantsStandIn t = false := by
  obtain rfl : f = 3 := Option.some.inj ((show Tryz.prog.funcNamed "optima/optimalaw1.MatrixFactor" = some 3 by kernel_rfl).symm.trans hf) |>.symm
  obtain rfl : fn = Tryz.f3 := (Option.some.inj (Tryz.func3.symm.trans hfn)).symm
  have hall : Tryz.f3.params.all (fun t => Tryz.prog.wantsStandIn t == false) = true := by kernel_rfl
  refine ⟨by kernel_rfl, fun j t ht => ?_⟩
  have := Array.all_eq_true'.1 hall t (Array.mem_of_getElem? ht)
  exact eq_of_beq this

theorem card : Rows.MatrixFactorUptoCardSaid :=
  Claim7.holds_tied_plain_at .later [] _ _ _ _ said (fun _ h => by cases h) (by kernel_rfl) (fun _ h => by cases h) matrixFactorUpto_row_tie rfl ⟨rfl, rfl⟩ (by kernel_rfl) rfl plain (by kernel_rfl)
end Go.Proofs.YtnimjdcaajmfcaaGreatDoor.matrixFactor

