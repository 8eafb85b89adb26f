/- The law SimplexBest returns true, whatever the problem and the point in texts, if these are together of bulk at most 1048576, and leaves what it was given as it was. Said of every run of the given program whose package variables hold what the row lists. -/
import Derived.Test.YtnimjdcaajmfcaaGreatDoorBXw
import Derived.Test.YtnimjdcaajmfcaaGreatDoorCards
import Derived.Test.YtnimjdcaajmfcaaGreatDoorTie
open Go.Proofs.Tryz renaming prog->awW,f4->axA,underlying4->axB,checked->axC,func4->axD
open Go.Proofs.YtnimjdcaajmfcaaGreatDoor.Rows renaming uptoBulk->axE,uptoBulkAll->axF,simplexBestSpec->axG,simplexBestUptoRow->axH
open Go.OpenSpec renaming ofChange->axI
open List renaming append_nil->avB,mem_append_left->ats
open Bool renaming and_eq_true->atl
set_option maxRecDepth 100000
namespace Go.Proofs.YtnimjdcaajmfcaaGreatDoor.simplexBest
open Go Go.Sv Go.Tb Go.Ut Go.Li Go.ChangeShapes Go.WideShapes Go.ChangeAt Go.RowKit Go.ChangeMaps
theorem own:ownKnob awW.godebug=none:=by kernel_rfl
theorem Xb:Pt.fits awW sI 68=true:=by kernel_rfl
theorem fit1:Pt.fits awW o9 23=true:=by kernel_rfl
theorem bkR{H:Type}:Bk (Hh:=H) axE axF:=⟨λl=>by cases l<;>simp[axE],λb=>by simp[axE],by simp[axE],λe r=>by simp[axE],λl=>by simp[axE],by simp[axF],λd r=>by simp[axF]⟩
theorem KC(H:Type)(enc:TypeId × Value->H)(W:World)(base:Nat)(args:Array Value)(ds gs:List (DataW H))(before:List MemPlace)
  (aa:∀(j:Nat) t v,axA.params[j]?=some t->args[j]?=some v->Value.okWide awW W .any base t v)
  (hW:DataW.Whole enc awW axA.params.toList axG.vars false W args.toList ds gs before)
  (hz:(DataW.weightsEach awW (axA.params.toList++(axI axG).bare.plain.varTypes awW) (ds++gs)).all (·<=reachBytes)=true) (hk:Rows.uptoSmall H (ds++gs)=true) (hL:laidMetH awW axH.laid W) :
  Calls awW 4 args W λe W'=>∃v,e=.returned v∧axG.post enc awW axA false true false false W args v W':=by
 have ae:=hW;obtain⟨p,q,af,hV,rfl,aj,ak⟩:=hW;have hA:DataW.TrodAll enc awW W 0 (λ_=>true) true axA.params.toList args.toList ds p:=af;have hP:=hA;have ac:axA.params.toList=[68,23]:=rfl;rw[ac]at hA hP hz;obtain⟨v0,r0,d0,e0,p0,q0,a0,rfl,rfl,h0,hA⟩:=trodAll_cons hA;obtain⟨v1,r1,d1,e1,p1,q1,rfl,rfl,rfl,h1,hA⟩:=trodAll_cons hA;obtain⟨rfl,rfl,rfl⟩:=trodAll_nil hA;obtain rfl:args=#[v0,v1]:=by cases args;simp_all
 obtain⟨rfl,rfl⟩:=trodVars_none hV;have ab:(axI axG).bare.plain.varTypes awW=[]:=rfl;rw[ab,avB,avB]at hz;have hb:=of_decide_eq_true hk;simp only[avB,axF,Nat.add_zero]at hb;simp only[DataW.weightsEach,avB,List.all_append,atl]at hz;obtain⟨z0,z1⟩:=hz;obtain⟨y0,w0,x0,k0⟩:=Pt.QD Xb (aa 0 68 v0 rfl rfl) h0 z0;obtain⟨y1,w1,x1,k1⟩:=Pt.QD fit1 (aa 1 23 v1 rfl rfl) h1 z1;have k0:=Nat.le_trans (k0 _ _ bkR) (show axE d0<=1048576 by omega);have k1:=Nat.le_trans (k1 _ _ bkR) (show axE d1<=1048576 by omega);have walk:=calls_of_pureF ((by rw[Pb,LY];exact simplexBest_ok (zj y0) y1 (O9 k0) (DD k1))) (Tryz.inv_of_laidH hL) (Bm x0 (Bm x1 NI));refine walk.mono λe W' ⟨he,hg⟩=>?_;subst he;refine⟨_,rfl,Gw (pa:=_) (pv:=[]) ae hg (λ_ _ _=>trodAll_cons_mk (shut_bool axB _) trodAll_mk0)
  (λsp ag=>rA (pts:=[sI,o9]) rfl ?_ hP (λq hq=>⟨ag q (ats _ hq),Cz hg (ae.lt q (ats _ hq))⟩)) (λ_ _=>rfl) rfl
  (ok_one (by kernel_rfl) rfl (okWide_bool_mk axB _))⟩
 intro i p t hp ht
 match i,hp,ht with
 | 0,hp,ht=>cases hp;cases ht;exact Xb
 | 1,hp,ht=>cases hp;cases ht;exact fit1
 | k+2,hp,ht=>simp at hp
abbrev wit:Array Value:=#[.agg #[.bool false,.string .empty,.slice none 0 0,.slice none 0 0],.slice none 0 0]
theorem Ky(os:Os):laidMetH awW axH.laid ((Tryz.uq os).forCall (λ_ _=>0) ⟨#[],wit,[]⟩).memory :=
 laidMetH_of_parts (laidMet_of_run' 8 (by kernel_rfl) (by kernel_rfl)) (by kernel_rfl)
theorem reads(os:Os){H:Type}(enc:TypeId × Value->H):∃places,DataW.whole enc awW ((Tryz.uq os).forCall (λ_ _=>0) ⟨#[],wit,[]⟩).memory axA.params.toList axG.vars false wit.toList 8=some ([.agg [.lit (.bool false),.lit (.string []),.nil,.nil],.nil],[],places) :=
 ⟨[],by kernel_rfl⟩
theorem lifted(os:Os)(started:os.Started)(H:Type)(enc:TypeId × Value->H)(F:Stop.Interp) :
  ReturnsInHanded {} axC os 4 .any ((Rows.OpenSpec.upto axG).preRow enc awW axA axH.domain false axH.laid) (((Rows.OpenSpec.upto axG).at F).post enc awW axA false true false false):=by
 obtain⟨places,hx⟩:=reads os enc;refine returnsInHanded_of_row (C:=axC) (s:=Rows.OpenSpec.upto axG) own started (by kernel_rfl) axD
  (witness_row_atRef (enc:=enc) (C:=axC) false (Tryz.uq os) wit rfl (by kernel_rfl) (by kernel_rfl) (by kernel_rfl)
   (OpenSpec.preRow_of_cond 8 hx (by kernel_rfl) (λk hk=>by cases hk;kernel_rfl) (by kernel_rfl) (Ky os))) ?_
 intro W base args ds gs before aa hW _ hc hz hL _ _;exact KC H enc W base args ds gs before aa hW hz (hc _ rfl) hL
theorem JD{P:Program}{f:FuncId}{fn:Func}{s:ChangeSpec}{c:OpenClaim}
  (h1:(c.wf (axI s)&&laidOutB P&&mapsRowed P&&fn.params.all (P.readableRec ·)&&namedTie P c.named s.vars&&(c.stops==[])&&(P.stops==[])&&(c.knobs==[])&&(P.stopKnobs==[]))=true)
  (h2:(c.inPlace==P.inPlace f)=true) (h3:(c.unfollowed==P.unfollowed f)=true) (h4:(c.recurses==P.recurses f)=true) (h5:(c.named==P.varsNamed f)=true)
  (h6:((c.maps==(fn.params.toList++s.plain.varTypes P).any (P.mapsRec ·))&&(c.ifaces==(fn.params.toList++s.plain.varTypes P).any (P.ifacesRec ·))&&(c.mapsOut==P.mapsAmong fn.resultTypes.toList)&&(c.loops==(fn.params.toList++s.plain.varTypes P).any (P.loopsFrom ·))&&(c.wideKeys==(fn.params.toList++s.plain.varTypes P++fn.resultTypes.toList).any (P.wideKeysFrom ·))&&s.vars.all (P.varReadable ·)&&fn.resultTypes.all (λt=>P.readableRec t&&decide (t<P.types.size))&&(c.ifacesOut==fn.resultTypes.toList.any (P.ifacesRec ·))&&(c.loopsOut==fn.resultTypes.toList.any (P.loopsFrom ·)))=true)
  (h7:((c.plainKeys==P.plainKeys)&&c.shortTexts.isNone&&P.stopsHeard&&P.mayEnter&&(c.lifted==P.liftsFinal)&&(P.make==some c.make)&&(c.kinds==(if c.domain.isEmpty then[] else fn.params.toList.map λt=>match P.underlying t with | some (.int k)=>some k | _=>none))&&(c.pinned==c.pinnedBy)&&(c.veiled==(fn.params.toList++s.plain.varTypes P++fn.resultTypes.toList).any (P.veiledRec ·))&&c.veiledFits P fn.params.toList (fn.params.toList++s.plain.varTypes P++fn.resultTypes.toList))=true) :
  joinedFacts P f fn s c=true:=by
 unfold joinedFacts;rw[atl]at *;simp only[atl,and_assoc]at h1 h6 h7 ⊢;obtain⟨a1,a2,a3,a4,a5,a6,a7,a8,a9⟩:=h1;obtain⟨b1,b2,b3,b4,b5,b6,b7,b8,b9⟩:=h6;obtain⟨c1,c2,c3,c4,c5,c6,c7,c8,c9,ah⟩:=h7;exact⟨a1,a2,a3,a4,a5,a6,a7,a8,a9,h2,h3,h4,h5,b1,b2,b3,b4,b5,b6,b7,b8,b9,c1,c2,c3,c4,c5,c6,c7,c8,c9,ah⟩
theorem acO:(axH.inPlace==awW.inPlace 4)=true:=by kernel_rfl
theorem XE:(axH.unfollowed==awW.unfollowed 4)=true:=by kernel_rfl
theorem YG:(axH.recurses==awW.recurses 4)=true:=by kernel_rfl
theorem Xn:(axH.named==awW.varsNamed 4)=true:=by kernel_rfl
theorem closed:joinedFacts awW 4 axA (Rows.OpenSpec.upto axG).bare axH=true :=
 JD (by kernel_rfl) acO XE YG Xn (by kernel_rfl) (by kernel_rfl)
theorem said:Rows.SimplexBestUptoSaid :=
 OpenClaim.holds_of_cond 4 axA rfl rfl rfl rfl rfl rfl rfl ⟨rfl,rfl,rfl,rfl,rfl⟩ rfl rfl rfl rfl rfl (by kernel_rfl) axD closed
  (of_decide_eq_true (by kernel_rfl)) (by unfold Func.isWrapper;first | (rw[if_pos (by decide +kernel)];kernel_rfl) | (rw[if_neg (by decide +kernel)];exact⟨rfl,rfl⟩))
  (λos started H enc _ F=>by rw[OpenClaim.pre_eq_preRow];exact lifted os started H enc F)
theorem plain (f : FuncId) (fn : Func) (hf : Tryz.pinned.checked.prog.funcNamed "optima/optimalaw2.SimplexBest" = some f) (ai : Tryz.pinned.checked.prog.funcs[f]? = some fn) :
  true=Tryz.pinned.checked.prog.looks []∧∀(j:Nat) t,fn.params[j]?=some t->Tryz.pinned.checked.prog.wantsStandIn t=false:=by
 obtain rfl : f = 4 := Option.some.inj ((show awW.funcNamed "optima/optimalaw2.SimplexBest" = some 4 by kernel_rfl).symm.trans hf) |>.symm
 obtain rfl:fn=axA:=(Option.some.inj (axD.symm.trans ai)).symm;have ad:axA.params.all (λt=>awW.wantsStandIn t==false)=true:=by kernel_rfl
 refine⟨by kernel_rfl,λj t ht=>?_⟩;have:=Array.all_eq_true'.1 ad t (Array.mem_of_getElem? ht);exact eq_of_beq this
theorem card:Rows.SimplexBestUptoCardSaid :=
 Claim7.holds_tied_plain_at .later [] _ _ _ _ said (λ_ h=>by cases h) (by kernel_rfl) (λ_ h=>by cases h) simplexBestUpto_row_tie rfl ⟨rfl,rfl⟩ (by kernel_rfl) rfl plain (by kernel_rfl)
end Go.Proofs.YtnimjdcaajmfcaaGreatDoor.simplexBest

