/- The law SimplexSolves returns true, whatever the problem in texts, if it is of bulk at most 1048576, and leaves what it was given as it was. Said of every run of the given program whose package variables hold what the row lists. -/
import Derived.Test.YtnimjdcaajmfcaaGreatDoorVXv
import Derived.Test.YtnimjdcaajmfcaaGreatDoorCards
import Derived.Test.YtnimjdcaajmfcaaGreatDoorTie
open Go.Proofs.Tryz renaming prog->ay9,f6->aCv,underlying4->aCw,checked->aCx,func6->aCy
open Go.Proofs.YtnimjdcaajmfcaaGreatDoor.Rows renaming uptoBulk->aCz,uptoBulkAll->aCA,simplexSolvesSpec->aCB,simplexSolvesUptoRow->aCC
open Go.OpenSpec renaming ofChange->aCD
open List renaming append_nil->aBS,mem_append_left->ayE
set_option maxRecDepth 100000
namespace Go.Proofs.YtnimjdcaajmfcaaGreatDoor.simplexSolves
open Go Go.Sv Go.Tb Go.Ut Go.Li Go.ChangeShapes Go.WideShapes Go.ChangeAt Go.RowKit Go.ChangeMaps
theorem own:ownKnob ay9.godebug=none:=by kernel_rfl
theorem afn:Pt.fits ay9 uA 68=true:=by kernel_rfl
theorem bkR{H:Type}:Bk (Hh:=H) aCz aCA:=⟨λl=>by cases l<;>simp[aCz],λb=>by simp[aCz],by simp[aCz],λe r=>by simp[aCz],λl=>by simp[aCz],by simp[aCA],λd r=>by simp[aCA]⟩
theorem Ow(H:Type)(enc:TypeId × Value->H)(W:World)(base:Nat)(args:Array Value)(ds gs:List (DataW H))(before:List MemPlace)
  (aa:∀(j:Nat) t v,aCv.params[j]?=some t->args[j]?=some v->Value.okWide ay9 W .any base t v)
  (hW:DataW.Whole enc ay9 aCv.params.toList aCB.vars false W args.toList ds gs before)
  (hz:(DataW.weightsEach ay9 (aCv.params.toList++(aCD aCB).bare.plain.varTypes ay9) (ds++gs)).all (·<=reachBytes)=true) (hk:Rows.uptoSmall H (ds++gs)=true) (hL:laidMetH ay9 aCC.laid W) :
  Calls ay9 6 args W λe W'=>∃v,e=.returned v∧aCB.post enc ay9 aCv false true false false W args v W':=by
 have ae:=hW;obtain⟨p,q,af,hV,rfl,aj,ak⟩:=hW;have hA:DataW.TrodAll enc ay9 W 0 (λ_=>true) true aCv.params.toList args.toList ds p:=af;have hP:=hA;have ac:aCv.params.toList=[68]:=rfl;rw[ac]at hA hP hz;obtain⟨v0,r0,d0,e0,p0,q0,a0,rfl,rfl,h0,hA⟩:=trodAll_cons hA;obtain⟨rfl,rfl,rfl⟩:=trodAll_nil hA;obtain rfl:args=#[v0]:=by cases args;simp_all
 obtain⟨rfl,rfl⟩:=trodVars_none hV;have ab:(aCD aCB).bare.plain.varTypes ay9=[]:=rfl;rw[ab,aBS,aBS]at hz;have hb:=of_decide_eq_true hk;simp only[aBS,aCA,Nat.add_zero]at hb;simp only[DataW.weightsEach,aBS]at hz;have z0:=hz;obtain⟨y0,w0,x0,k0⟩:=Pt.ae2 afn (aa 0 68 v0 rfl rfl) h0 z0;have k0:=Nat.le_trans (k0 _ _ bkR) (show aCz d0<=1048576 by omega);have walk:=AL ((by rw[R8];exact wx (AQ y0) (SA k0))) (Tryz.FA hL) (LS x0 PE);refine walk.mono λe W' ⟨he,hg⟩=>?_;subst he;refine⟨_,rfl,I1 (pa:=_) (pv:=[]) ae hg (λ_ _ _=>trodAll_cons_mk (shut_bool aCw _) trodAll_mk0)
  (λsp ag=>s9 (pts:=[uA]) rfl ?_ hP (λq hq=>⟨ag q (ayE _ hq),DJ hg (ae.lt q (ayE _ hq))⟩)) (λ_ _=>rfl) rfl
  (ok_one (by kernel_rfl) rfl (okWide_bool_mk aCw _))⟩
 intro i p t hp ht
 match i,hp,ht with
 | 0,hp,ht=>cases hp;cases ht;exact afn
 | k+1,hp,ht=>simp at hp
abbrev wit:Array Value:=#[.agg #[.bool false,.string .empty,.slice none 0 0,.slice none 0 0]]
theorem Qs(os:Os):laidMetH ay9 aCC.laid ((Tryz.tN os).forCall (λ_ _=>0) ⟨#[],wit,[]⟩).memory :=
 laidMetH_of_parts (laidMet_of_run' 8 (by kernel_rfl) (by kernel_rfl)) (by kernel_rfl)
theorem reads(os:Os){H:Type}(enc:TypeId × Value->H):∃places,DataW.whole enc ay9 ((Tryz.tN os).forCall (λ_ _=>0) ⟨#[],wit,[]⟩).memory aCv.params.toList aCB.vars false wit.toList 8=some ([.agg [.lit (.bool false),.lit (.string []),.nil,.nil]],[],places) :=
 ⟨[],by kernel_rfl⟩
theorem lifted(os:Os)(started:os.Started)(H:Type)(enc:TypeId × Value->H)(F:Stop.Interp) :
  ReturnsInHanded {} aCx os 6 .any ((Rows.OpenSpec.upto aCB).preRow enc ay9 aCv aCC.domain false aCC.laid) (((Rows.OpenSpec.upto aCB).at F).post enc ay9 aCv false true false false):=by
 obtain⟨places,hx⟩:=reads os enc;refine returnsInHanded_of_row (C:=aCx) (s:=Rows.OpenSpec.upto aCB) own started (by kernel_rfl) aCy
  (witness_row_atRef (enc:=enc) (C:=aCx) false (Tryz.tN os) wit rfl (by kernel_rfl) (by kernel_rfl) (by kernel_rfl)
   (OpenSpec.preRow_of_cond 8 hx (by kernel_rfl) (λk hk=>by cases hk;kernel_rfl) (by kernel_rfl) (Qs os))) ?_
 intro W base args ds gs before aa hW _ hc hz hL _ _;exact Ow H enc W base args ds gs before aa hW hz (hc _ rfl) hL
theorem LZ{P:Program}{f:FuncId}{fn:Func}{s:ChangeSpec}{c:OpenClaim}
  (h1:(c.wf (aCD s)&&laidOutB P&&mapsRowed P&&fn.params.all (P.readableRec ·)&&namedTie P c.named s.vars&&(c.stops==[])&&(P.stops==[])&&(c.knobs==[])&&(P.stopKnobs==[]))=true)
  (h2:(c.inPlace==P.inPlace f)=true) (h3:(c.unfollowed==P.unfollowed f)=true) (h4:(c.recurses==P.recurses f)=true) (h5:(c.named==P.varsNamed f)=true)
  (h6:((c.maps==(fn.params.toList++s.plain.varTypes P).any (P.mapsRec ·))&&(c.ifaces==(fn.params.toList++s.plain.varTypes P).any (P.ifacesRec ·))&&(c.mapsOut==P.mapsAmong fn.resultTypes.toList)&&(c.loops==(fn.params.toList++s.plain.varTypes P).any (P.loopsFrom ·))&&(c.wideKeys==(fn.params.toList++s.plain.varTypes P++fn.resultTypes.toList).any (P.wideKeysFrom ·))&&s.vars.all (P.varReadable ·)&&fn.resultTypes.all (λt=>P.readableRec t&&decide (t<P.types.size))&&(c.ifacesOut==fn.resultTypes.toList.any (P.ifacesRec ·))&&(c.loopsOut==fn.resultTypes.toList.any (P.loopsFrom ·)))=true)
  (h7:((c.plainKeys==P.plainKeys)&&c.shortTexts.isNone&&P.stopsHeard&&P.mayEnter&&(c.lifted==P.liftsFinal)&&(P.make==some c.make)&&(c.kinds==(if c.domain.isEmpty then[] else fn.params.toList.map λt=>match P.underlying t with | some (.int k)=>some k | _=>none))&&(c.pinned==c.pinnedBy)&&(c.veiled==(fn.params.toList++s.plain.varTypes P++fn.resultTypes.toList).any (P.veiledRec ·))&&c.veiledFits P fn.params.toList (fn.params.toList++s.plain.varTypes P++fn.resultTypes.toList))=true) :
  joinedFacts P f fn s c=true:=by
 unfold joinedFacts;rw[Bool.and_eq_true]at *;simp only[Bool.and_eq_true,and_assoc]at h1 h6 h7 ⊢;obtain⟨a1,a2,a3,a4,a5,a6,a7,a8,a9⟩:=h1;obtain⟨b1,b2,b3,b4,b5,b6,b7,b8,b9⟩:=h6;obtain⟨c1,c2,c3,c4,c5,c6,c7,c8,c9,ah⟩:=h7;exact⟨a1,a2,a3,a4,a5,a6,a7,a8,a9,h2,h3,h4,h5,b1,b2,b3,b4,b5,b6,b7,b8,b9,c1,c2,c3,c4,c5,c6,c7,c8,c9,ah⟩
theorem adH:(aCC.inPlace==ay9.inPlace 6)=true:=by kernel_rfl
theorem aep:(aCC.unfollowed==ay9.unfollowed 6)=true:=by kernel_rfl
theorem ac4:(aCC.recurses==ay9.recurses 6)=true:=by kernel_rfl
theorem acU:(aCC.named==ay9.varsNamed 6)=true:=by kernel_rfl
theorem closed:joinedFacts ay9 6 aCv (Rows.OpenSpec.upto aCB).bare aCC=true :=
 LZ (by kernel_rfl) adH aep ac4 acU (by kernel_rfl) (by kernel_rfl)
theorem said:Rows.SimplexSolvesUptoSaid :=
 OpenClaim.holds_of_cond 6 aCv rfl rfl rfl rfl rfl rfl rfl ⟨rfl,rfl,rfl,rfl,rfl⟩ rfl rfl rfl rfl rfl (by kernel_rfl) aCy closed
  (of_decide_eq_true (by kernel_rfl)) (by unfold Func.isWrapper;first | (rw[if_pos (by decide +kernel)];kernel_rfl) | (rw[if_neg (by decide +kernel)];exact⟨rfl,rfl⟩))
  (λos started H enc _ F=>by rw[OpenClaim.pre_eq_preRow];exact lifted os started H enc F)
theorem plain (f : FuncId) (fn : Func) (hf : Tryz.pinned.checked.prog.funcNamed "optima/optimalaw2.SimplexSolves" = some f) (ai : Tryz.pinned.checked.prog.funcs[f]? = some fn) :
  true=Tryz.pinned.checked.prog.looks []∧∀(j:Nat) t,fn.params[j]?=some t->Tryz.pinned.checked.prog.wantsStandIn t=false:=by
 obtain rfl : f = 6 := Option.some.inj ((show ay9.funcNamed "optima/optimalaw2.SimplexSolves" = some 6 by kernel_rfl).symm.trans hf) |>.symm
 obtain rfl:fn=aCv:=(Option.some.inj (aCy.symm.trans ai)).symm;have ad:aCv.params.all (λt=>ay9.wantsStandIn t==false)=true:=by kernel_rfl
 refine⟨by kernel_rfl,λj t ht=>?_⟩;have:=Array.all_eq_true'.1 ad t (Array.mem_of_getElem? ht);exact eq_of_beq this
theorem card:Rows.SimplexSolvesUptoCardSaid :=
 Claim7.holds_tied_plain_at .later [] _ _ _ _ said (λ_ h=>by cases h) (by kernel_rfl) (λ_ h=>by cases h) simplexSolvesUpto_row_tie rfl ⟨rfl,rfl⟩ (by kernel_rfl) rfl plain (by kernel_rfl)
end Go.Proofs.YtnimjdcaajmfcaaGreatDoor.simplexSolves

