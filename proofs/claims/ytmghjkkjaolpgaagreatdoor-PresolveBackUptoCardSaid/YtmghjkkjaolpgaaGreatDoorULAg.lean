/- The law PresolveBack returns true, whatever the problem and the point in texts, if all is of bulk at most 1048576, and leaves what it was given as it was. Said of every run of the given program whose package variables hold what the row lists. -/
import Derived.Test.YtmghjkkjaolpgaaGreatDoorULr
import Derived.Test.YtmghjkkjaolpgaaGreatDoorUEf
import Derived.Test.YtmghjkkjaolpgaaGreatDoorCards
import Derived.Test.YtmghjkkjaolpgaaGreatDoorTie
open List renaming append_nil→apq,mem_append_left→amZ
open Bool renaming and_eq_true→amS
set_option maxRecDepth 100000
namespace Go.Proofs.YtmghjkkjaolpgaaGreatDoor.presolveBack
open Go Go.Sv Go.Tb Go.Ut Go.Li Go.Ps Go.ChangeShapes Go.WideShapes Go.ChangeAt Go.RowKit Go.ChangeMaps
theorem own:ownKnob Tryz.prog.godebug=none:=by kernel_rfl
theorem Va:Pt.fits Tryz.prog qG 25=true:=by kernel_rfl
theorem XO:Pt.fits Tryz.prog nZ 69=true:=by kernel_rfl
theorem bkR{H:Type}:Bk (Hh:=H) Rows.uptoBulk Rows.uptoBulkAll:=⟨fun l=>by cases l<;>simp[Rows.uptoBulk],fun b=>by simp[Rows.uptoBulk],by simp[Rows.uptoBulk],fun e r=>by simp[Rows.uptoBulk],fun l=>by simp[Rows.uptoBulk],by simp[Rows.uptoBulkAll],fun d r=>by simp[Rows.uptoBulkAll]⟩
theorem HP(H:Type)(enc:TypeId × Value→H)(W:World)(base:Nat)(args:Array Value)(ds gs:List (DataW H))(before:List MemPlace)
  (hval:∀(j:Nat) t v,Tryz.f4.params[j]?=some t→args[j]?=some v→Value.okWide Tryz.prog W .any base t v)
  (hW:DataW.Whole enc Tryz.prog Tryz.f4.params.toList Rows.presolveBackSpec.vars false W args.toList ds gs before)
  (hz:(DataW.weightsEach Tryz.prog (Tryz.f4.params.toList++(OpenSpec.ofChange Rows.presolveBackSpec).bare.plain.varTypes Tryz.prog) (ds++gs)).all (·≤reachBytes)=true) (hk:Rows.uptoSmall H (ds++gs)=true) (hL:laidMetH Tryz.prog Rows.presolveBackUptoRow.laid W) :
  Calls Tryz.prog 4 args W fun e W'=>∃v,e=.returned v∧Rows.presolveBackSpec.post enc Tryz.prog Tryz.f4 false true false false W args v W':=by
 have hW':=hW;obtain⟨p,q,hA0,hV,rfl,hfz,hnd⟩:=hW;have hA:DataW.TrodAll enc Tryz.prog W 0 (fun _=>true) true Tryz.f4.params.toList args.toList ds p:=hA0;have hP:=hA;have hpar:Tryz.f4.params.toList=[25,69]:=rfl;rw[hpar]at hA hP hz;obtain⟨v0,r0,d0,e0,p0,q0,a0,rfl,rfl,h0,hA⟩:=trodAll_cons hA;obtain⟨v1,r1,d1,e1,p1,q1,rfl,rfl,rfl,h1,hA⟩:=trodAll_cons hA;obtain⟨rfl,rfl,rfl⟩:=trodAll_nil hA;obtain rfl:args=#[v0,v1]:=by cases args;simp_all
 obtain⟨rfl,rfl⟩:=trodVars_none hV;have hvars:(OpenSpec.ofChange Rows.presolveBackSpec).bare.plain.varTypes Tryz.prog=[]:=rfl;rw[hvars,apq,apq]at hz;have hb:=of_decide_eq_true hk;simp only[apq,Rows.uptoBulkAll,Nat.add_zero]at hb;simp only[DataW.weightsEach,apq,List.all_append,amS]at hz;obtain⟨z0,z1⟩:=hz;obtain⟨y0,w0,x0,k0⟩:=Pt.M4 Va (hval 0 25 v0 rfl rfl) h0 z0;obtain⟨y1,w1,x1,k1⟩:=Pt.M4 XO (hval 1 69 v1 rfl rfl) h1 z1;have k0:=Nat.le_trans (k0 _ _ bkR) (show Rows.uptoBulk d0≤1048576 by omega);have k1:=Nat.le_trans (k1 _ _ bkR) (show Rows.uptoBulk d1≤1048576 by omega);have walk:=w5 ((by rw[K6,Jc];exact tN (vF y0) y1 (KC k0) (BO k1))) (Tryz.BQ hL) (x6 x0 (x6 x1 Hd));refine walk.mono fun e W' ⟨he,hg⟩=>?_;subst he;refine⟨_,rfl,Da (pa:=_) (pv:=[]) hW' hg (fun _ _ _=>trodAll_cons_mk (shut_bool Tryz.underlying4 _) trodAll_mk0)
  (fun sp hsp=>pd (pts:=[qG,nZ]) rfl ?_ hP (fun q hq=>⟨hsp q (amZ _ hq),yE hg (hW'.lt q (amZ _ hq))⟩)) (fun _ _=>rfl) rfl
  (ok_one (by kernel_rfl) rfl (okWide_bool_mk Tryz.underlying4 _))⟩
 intro i p t hp ht
 match i,hp,ht with
 | 0,hp,ht=>cases hp;cases ht;exact Va
 | 1,hp,ht=>cases hp;cases ht;exact XO
 | k+2,hp,ht=>simp at hp
abbrev wit:Array Value:=#[.agg #[.bool false,.string .empty,.slice none 0 0,.slice none 0 0],.slice none 0 0]
theorem I0(os:Os):laidMetH Tryz.prog Rows.presolveBackUptoRow.laid ((Tryz.pN os).forCall (fun _ _=>0) ⟨#[],wit,[]⟩).memory :=
 laidMetH_of_parts (laidMet_of_run' 8 (by kernel_rfl) (by kernel_rfl)) (by kernel_rfl)
theorem reads(os:Os){H:Type}(enc:TypeId × Value→H):∃places,DataW.whole enc Tryz.prog ((Tryz.pN os).forCall (fun _ _=>0) ⟨#[],wit,[]⟩).memory Tryz.f4.params.toList Rows.presolveBackSpec.vars false wit.toList 8=some ([.agg [.lit (.bool false),.lit (.string []),.nil,.nil],.nil],[],places) :=
 ⟨[],by kernel_rfl⟩
theorem lifted(os:Os)(started:os.Started)(H:Type)(enc:TypeId × Value→H)(F:Stop.Interp) :
  ReturnsInHanded {} Tryz.checked os 4 .any ((Rows.OpenSpec.upto Rows.presolveBackSpec).preRow enc Tryz.prog Tryz.f4 Rows.presolveBackUptoRow.domain false Rows.presolveBackUptoRow.laid) (((Rows.OpenSpec.upto Rows.presolveBackSpec).at F).post enc Tryz.prog Tryz.f4 false true false false):=by
 obtain⟨places,hx⟩:=reads os enc;refine returnsInHanded_of_row (C:=Tryz.checked) (s:=Rows.OpenSpec.upto Rows.presolveBackSpec) own started (by kernel_rfl) Tryz.func4
  (witness_row_atRef (enc:=enc) (C:=Tryz.checked) false (Tryz.pN os) wit rfl (by kernel_rfl) (by kernel_rfl) (by kernel_rfl)
   (OpenSpec.preRow_of_cond 8 hx (by kernel_rfl) (fun k hk=>by cases hk;kernel_rfl) (by kernel_rfl) (I0 os))) ?_
 intro W base args ds gs before hval hW _ hc hz hL _ _;exact HP H enc W base args ds gs before hval hW hz (hc _ rfl) hL
theorem Gb{P:Program}{f:FuncId}{fn:Func}{s:ChangeSpec}{c:OpenClaim}
  (h1:(c.wf (OpenSpec.ofChange s)&&laidOutB P&&mapsRowed P&&fn.params.all (P.readableRec ·)&&namedTie P c.named s.vars&&(c.stops==[])&&(P.stops==[])&&(c.knobs==[])&&(P.stopKnobs==[]))=true)
  (h2:(c.inPlace==P.inPlace f)=true) (h3:(c.unfollowed==P.unfollowed f)=true) (h4:(c.recurses==P.recurses f)=true) (h5:(c.named==P.varsNamed f)=true)
  (h6:((c.maps==(fn.params.toList++s.plain.varTypes P).any (P.mapsRec ·))&&(c.ifaces==(fn.params.toList++s.plain.varTypes P).any (P.ifacesRec ·))&&(c.mapsOut==P.mapsAmong fn.resultTypes.toList)&&(c.loops==(fn.params.toList++s.plain.varTypes P).any (P.loopsFrom ·))&&(c.wideKeys==(fn.params.toList++s.plain.varTypes P++fn.resultTypes.toList).any (P.wideKeysFrom ·))&&s.vars.all (P.varReadable ·)&&fn.resultTypes.all (fun t=>P.readableRec t&&decide (t<P.types.size))&&(c.ifacesOut==fn.resultTypes.toList.any (P.ifacesRec ·))&&(c.loopsOut==fn.resultTypes.toList.any (P.loopsFrom ·)))=true)
  (h7:((c.plainKeys==P.plainKeys)&&c.shortTexts.isNone&&P.stopsHeard&&P.mayEnter&&(c.lifted==P.liftsFinal)&&(P.make==some c.make)&&(c.kinds==(if c.domain.isEmpty then[] else fn.params.toList.map fun t=>match P.underlying t with | some (.int k)=>some k | _=>none))&&(c.pinned==c.pinnedBy)&&(c.veiled==(fn.params.toList++s.plain.varTypes P++fn.resultTypes.toList).any (P.veiledRec ·))&&c.veiledFits P fn.params.toList (fn.params.toList++s.plain.varTypes P++fn.resultTypes.toList))=true) :
  joinedFacts P f fn s c=true:=by
 unfold joinedFacts;rw[amS]at *;simp only[amS,and_assoc]at h1 h6 h7 ⊢;obtain⟨a1,a2,a3,a4,a5,a6,a7,a8,a9⟩:=h1;obtain⟨b1,b2,b3,b4,b5,b6,b7,b8,b9⟩:=h6;obtain⟨c1,c2,c3,c4,c5,c6,c7,c8,c9,c10⟩:=h7;exact⟨a1,a2,a3,a4,a5,a6,a7,a8,a9,h2,h3,h4,h5,b1,b2,b3,b4,b5,b6,b7,b8,b9,c1,c2,c3,c4,c5,c6,c7,c8,c9,c10⟩
theorem Vu:(Rows.presolveBackUptoRow.inPlace==Tryz.prog.inPlace 4)=true:=by kernel_rfl
theorem U2:(Rows.presolveBackUptoRow.unfollowed==Tryz.prog.unfollowed 4)=true:=by kernel_rfl
theorem XX:(Rows.presolveBackUptoRow.recurses==Tryz.prog.recurses 4)=true:=by kernel_rfl
theorem SS:(Rows.presolveBackUptoRow.named==Tryz.prog.varsNamed 4)=true:=by kernel_rfl
theorem closed:joinedFacts Tryz.prog 4 Tryz.f4 (Rows.OpenSpec.upto Rows.presolveBackSpec).bare Rows.presolveBackUptoRow=true :=
 Gb (by kernel_rfl) Vu U2 XX SS (by kernel_rfl) (by kernel_rfl)
theorem said:Rows.PresolveBackUptoSaid :=
 OpenClaim.holds_of_cond 4 Tryz.f4 rfl rfl rfl rfl rfl rfl rfl ⟨rfl,rfl,rfl,rfl,rfl⟩ rfl rfl rfl rfl rfl (by kernel_rfl) Tryz.func4 closed
  (of_decide_eq_true (by kernel_rfl)) (by unfold Func.isWrapper;first | (rw[if_pos (by decide +kernel)];kernel_rfl) | (rw[if_neg (by decide +kernel)];exact⟨rfl,rfl⟩))
  (fun os started H enc _ F=>by rw[OpenClaim.pre_eq_preRow];exact lifted os started H enc F)
theorem plain (f : FuncId) (fn : Func) (hf : Tryz.pinned.checked.prog.funcNamed "optima/optimalaw2.PresolveBack" = some f) (hfn : Tryz.pinned.checked.prog.funcs[f]? = some fn) :
  true=Tryz.pinned.checked.prog.looks []∧∀(j:Nat) t,fn.params[j]?=some t→Tryz.pinned.checked.prog.wantsStandIn t=false:=by
 obtain rfl : f = 4 := Option.some.inj ((show Tryz.prog.funcNamed "optima/optimalaw2.PresolveBack" = some 4 by kernel_rfl).symm.trans hf) |>.symm
 obtain rfl:fn=Tryz.f4:=(Option.some.inj (Tryz.func4.symm.trans hfn)).symm;have hall:Tryz.f4.params.all (fun t=>Tryz.prog.wantsStandIn t==false)=true:=by kernel_rfl
 refine⟨by kernel_rfl,fun j t ht=>?_⟩;have:=Array.all_eq_true'.1 hall t (Array.mem_of_getElem? ht);exact eq_of_beq this
theorem card:Rows.PresolveBackUptoCardSaid :=
 Claim7.holds_tied_plain_at .later [] _ _ _ _ said (fun _ h=>by cases h) (by kernel_rfl) (fun _ h=>by cases h) presolveBackUpto_row_tie rfl ⟨rfl,rfl⟩ (by kernel_rfl) rfl plain (by kernel_rfl)
end Go.Proofs.YtmghjkkjaolpgaaGreatDoor.presolveBack

