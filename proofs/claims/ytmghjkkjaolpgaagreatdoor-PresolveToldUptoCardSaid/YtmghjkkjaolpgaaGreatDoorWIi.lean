/- A text of the prover's own. -/
import Derived.Test.YtmghjkkjaolpgaaGreatDoorWVe
open List renaming range→alI,mem_range→anR,getElem?_eq_some_iff→alA,all_eq_true→alU
open Bool renaming and_eq_true→alL,or_eq_true→alV
namespace Go.Sv
open Go Go.RowKit
section
variable {P:Program} {C:Ctx} {β:bU} {H:Hp} {M:aJ} {w:World}
end
section
variable {P:Program} {C:Ctx} {all:Array Oper} {rest:List Oper} {st:St} {R:aX}
end
/-! code in pieces -/
section
variable {P:Program} {C:Ctx} {st:St} {Q:aX}
theorem aa.nP{x y:Code}(h:aa P C x st (rk (fun st'=>aa P C y st' Q) Q)):aa P C (.seq x y) st Q:=by
 intro a w hs;refine wp_seq (wp_mono (h a w hs) ?_);rintro e a' w' ⟨st',h2,h3⟩;cases e<;>simp only[rk,Exit.then]at h2 ⊢<;>first | exact h2 a' w' h3 | exact⟨st',h2,h3⟩
theorem aa.sn{id:Nat}{c:Code}(h:aa P C c st (CG id Q)):aa P C (.block id c) st Q:=by
 intro a w hs;refine wp_block (wp_mono (h a w hs) ?_);rintro e a' w' ⟨st',h2,h3⟩;cases e<;>simp only[CG,Exit.inBlock]at h2 ⊢<;>first | exact⟨st',h2,h3⟩ | (split at h2<;>rename_i e<;>first | (rw[if_pos e];exact⟨st',h2,h3⟩) | (rw[if_neg e];exact⟨st',h2,h3⟩))
theorem aa.gD{c:Operand}{x y:Code}(b:Bool)(hb:ev st.fr c=some (.val (.bool b)))(h1:b=true→aa P C x st Q)(h2:b=false→aa P C y st Q):aa P C (.cond c x y) st Q:=by
 rintro a w ⟨β,H,hF,hW⟩;have hden:=yz hF hb;simp only[Den]at hden;exact wp_cond_split hden.1 (fun ht=>h1 ht a w ⟨β,H,hF,hW⟩) (fun hf=>h2 hf a w ⟨β,H,hF,hW⟩)
theorem aa.im{id:Nat}{ops:Array Oper}(h:nq P C ops ops.toList st Q):aa P C (.region id ops false) st Q:=fun a w hs=>wp_region_list (h a w hs)
theorem aa.D8{c:Code}{ι:Type}(I:ι→St)(Cn:ι→Prop)(μ:ι→Nat)(i0:ι)(h0:Cn i0)(hl:aw C st (I i0))
  (hr:∀i,Cn i→aa P C c (I i) (rk (fun st'=>∃j,Cn j∧μ j<μ i∧Le C st' (I j)) Q)):aa P C (.loop c) st Q:=by
 intro a w hs;refine pS (fun i a w=>Cn i∧IZ C (I i) a w) μ i0 ⟨h0,Le.bA hl a w hs⟩ ?_;rintro i a w ⟨hc,hs⟩;refine wp_mono (hr i hc a w hs) ?_;rintro e a' w' ⟨st',h1,h2⟩;cases e<;>simp only[rk,Exit.then]at h1 ⊢<;>first | exact⟨st',h1,h2⟩ | skip
 obtain⟨j,g1,g2,g3⟩:=h1;exact⟨j,⟨g1,g3 a' w' h2⟩,g2⟩
end
section
variable {P:Program} {C:Ctx} {M:aJ}
theorem B3{f:FuncId}{fn:Func}{c:Code}{args:List SV}{W:Option (List Nat)}{k:aJ→List Nat→SV→Prop}(hf:P.funcs[f]?=some fn)(hb:fn.body=some c)(hn:args.length≤fn.ntmps)(pk:List Nat)
  (hpk:∀i∈pk,i∉C.fx) (hWk:∀ks,W=some ks→pk=[]∧∀i e,ax M i=some e→i∈ks)
  (h:∀C':Ctx,C'.fx=(alI M.length).filter (fun i=>!pk.contains i)→aa P C' c ⟨fn.ntmps,lC 0 args,M⟩ (mm P fn.results.toList pk k)):cU P C f args M W k:=by
 intro β H w vals hd hW;refine calls_of_wp hf hb ?_
 let X:List Nat:=(alI M.length).filterMap fun i=>match ax M i,β i with
  | some _,some (some d)=>some d.b
  | _,_=>none
 have hX:∀b,b∈X↔∃i e d,ax M i=some e∧β i=some (some d)∧d.b=b:=fun b=>by
  simp only[X,List.mem_filterMap,anR];constructor
  ·rintro⟨i,hi,he⟩;split at he
   ·rename_i e d h1 h2;simp only[Option.some.injEq]at he;exact⟨i,e,d,h1,h2,he⟩
   ·cases he
  ·rintro⟨i,e,d,hi,hd,rfl⟩;refine⟨i,?_,by simp[hi,hd]⟩;have:=aM hi;exact(alA.1 this).1
 have hown:∀b,b∈X→C.w0.heap.size≤b∨b∈C.X:=fun b hb=>by
  obtain⟨i,e,d,h1,h2,rfl⟩:=(hX b).1 hb;exact(hW.own i e d (aM h1) h2).2
 let C':Ctx:=⟨w,H,X,β,(alI M.length).filter (fun i=>!pk.contains i)⟩
 have hfx:∀i d,i∉pk→β i=some d→i∈C'.fx:=fun i d hi hd=>by
  have:i<M.length:=by
   rcases Nat.lt_or_ge i M.length with h' | h'
   ·exact h'
   ·rw[hW.fresh i h']at hd;cases hd
  simp[C',this,hi]
 have hW0:cv C' β H M w:=⟨rfl,rfl,rfl,Nat.le_refl _,fun _ _ _=>rfl,fun _ _ h=>h,fun _ _ h=>.inl h,hW.inv,hW.db,
  fun i e d hi hd=>⟨(hW.own i e d hi hd).1,.inr ((hX _).2 ⟨i,e,d,DO hi,hd,rfl⟩)⟩,hW.inj,hW.fresh,fun _ _ _ h=>h,hW.eN⟩
 refine wp_mono (h C' rfl _ w ⟨β,H,qj hd hn hW.eN rfl (by simp),hW0⟩) ?_;rintro e a w' ⟨st,hq,β',H',hF,hW'⟩;have hkeep:∀i d,i∉pk→β i=some d→β' i=some d:=fun i d hi hd=>hW'.fO i d (hfx i d hi hd) hd;have hWC:cv C β' H' st.M w':=⟨hW'.os.trans hW.os,hW'.tape.trans hW.tape,hW'.output.trans hW.output,Nat.le_trans hW.size hW'.size,
  fun b hb hx=>by
   rw[hW'.frame b (Nat.lt_of_lt_of_le hb hW.size) (fun hbX=>by rcases hown b hbX with h' | h';omega;exact hx h')];exact hW.frame b hb hx,
  fun b cs hb=>hW'.ext b cs (hW.ext b cs hb),
  fun b cs hb=>by
   rcases hW'.new b cs hb with h' | h' | h'
   ·exact hW.new b cs h'
   ·exact .inr (.inl (Nat.le_trans hW.size h'))
   ·exact .inr (hown b h'),
  hW'.inv,hW'.db,
  fun i e d hi hd=>⟨(hW'.own i e d hi hd).1,by
   rcases(hW'.own i e d hi hd).2 with h' | h'
   ·exact .inl (Nat.le_trans hW.size h')
   ·exact hown _ h'⟩,
  hW'.inj,hW'.fresh,fun i d hi hd=>hkeep i d (fun hp=>hpk i hp hi) (hW.fO i d hi hd),hW'.eN⟩
 have key:(match j4 P st fn.results.toList with | some (c,x)=>c∧k st.M pk x | none=>False) →
   a.defers=[]∧∃v,(results fn a.tmps).run P w'=.ok v w'∧∃β' H' M' v' x pk,Ending.returned v=.returned v'∧Den β' H' x v'∧cv C β' H' M' w'∧(∀k d,k∉pk→β k=some d→β' k=some d)∧(∀b cs,H b=some cs→H' b=some cs)∧k M' pk x ∧
    w.heap.size≤w'.heap.size∧∀ks,W=some ks→pk=[]∧∀b,b<w.heap.size→(∀k∈ks,∀d,β k=some (some d)→b≠d.b)→w'.heap[b]?=w.heap[b]?:=by
  intro hq;refine⟨hF.1.1,?_⟩;split at hq
  ·rename_i c' x hr;obtain⟨v,hv1,hv2⟩:=vt hF hW' hr hq.1;refine⟨v,hv1,β',H',st.M,v,x,pk,rfl,hv2,hWC,hkeep,hW'.ext,hq.2,hW'.size,fun ks hks=>?_⟩;obtain⟨g1,g2⟩:=hWk ks hks;refine⟨g1,fun b hb hn=>hW'.frame b hb fun hbX=>?_⟩;obtain⟨i,e,d,h1,h2,rfl⟩:=(hX b).1 hbX;exact hn i (g2 i e h1) d h2 rfl
  ·exact hq.elim
 cases e<;>simp only[mm]at hq<;>simp only[bodyPost]
 case normal=>exact key hq
 case ret=>exact key hq
theorem bP{f:FuncId}{fn:Func}{c:Code}{args:List SV}{T:aJ}{pk:List Nat}{Φ:aJ→SV→Prop}(hf:P.funcs[f]?=some fn)(hb:fn.body=some c)(hn:args.length≤fn.ntmps)
  (h:∀C':Ctx,C'.fx=(alI T.length).filter (fun i=>!pk.contains i)→aa P C' c ⟨fn.ntmps,lC 0 args,T⟩ (mm P fn.results.toList pk (Kf T pk Φ))):ji P f args T pk Φ:=by
 intro C hC;exact B3 hf hb hn pk (fun i _ hi=>by rw[hC]at hi;cases hi) (fun ks h=>by cases h) h
end
end Go.Sv
namespace Go.Sv
open Go Go.RowKit
section
variable {P:Program} {C:Ctx} {ops:Array Oper} {R:aX} {st:St}
theorem ju.qI {i:Nat} {ks:List Nat} {r:Pl} (np:∀c st,¬R (.panic c) st) (h:match ops[i]? with
  | none=>False
  | some o=>gd ops o st (fun st'=>ue ks st' o.op∧cf P C none o st' (fun st''=>ju P C ops r st'' R) (fun _=>False)) (fun st'=>ju P C ops r st' R)):ju P C ops (.q i ks r) st R:=fun hns L hL β H a w hF hW=>by
 simp only[dD,alL]at hL;obtain⟨hq,hL⟩:=hL;split at h
 ·exact h.elim
 ·rename_i o ho;simp only[O7,ho,alL]at hq;obtain⟨h1,h2,h3,h4,h5⟩:=hq;simp only[alU,alL,Bool.not_eq_true']at h4
  let D:Nat→Bool:=fun j=>(HZ ops i).contains j
  let U:Nat→Prop:=fun b=>∃j,j<ops.size∧j≠i∧D j=false∧L.getD j true=false∧Wb β w.heap.size (r.Y j) b
  have hUk:(∃t x,o.op=.load t x)→∀b,U b→b<w.heap.size→m6∈ks∨∃k∈ks,∃d,β k=some (some d)∧d.b=b:=by
   rintro⟨t',x',hop⟩ b ⟨j,hj1,hj2,hj3,hj4,hw1,hw2⟩ hb;obtain⟨dst,op,type,pos,after,guard⟩:=o;simp only at hop;subst hop;simp only[alU,anR,alV,beq_iff_eq]at h5;have hks:∀k∈r.Y j,k∈ks:=fun k hk=>by
    rcases h5 j hj1 with h | h | h | h
    ·exact absurd h hj2
    ·rw[hj4]at h;cases h
    ·rw[show(HZ ops i).contains j=false from hj3]at h;cases h
    ·have:=h k hk;simpa using this
   rcases hw2 with hw2 | hw2 | ⟨k,hk,d,hd,hdb⟩
   ·exact .inl (hks _ hw2)
   ·omega
   ·exact .inr ⟨k,hks k hk,d,hd,hdb⟩
  have core:∀v,YieldsIf P ops (fun w'=>RS U w w'∧l6 H w') o v a→(∃fr,gQ β H st.n fr (a.put o.dst v)∧ju P C ops r ⟨st.n,fr,st.M⟩ R)→pf P ops (QQ C R) (fun j w1 w2=>GG H (Wb β w.heap.size ((Pl.q i ks r).Y j)) w1 w2) (Pl.q i ks r).len L a w:=by
   rintro v hy ⟨fr,hF',hv⟩;refine oA (D:=D) (S:=fun w'=>RS U w w'∧l6 H w') ho (Region.noSelect_spec hns) (fun c a' w' ⟨st',hp,_⟩=>absurd hp (np c st')) (fun j oj hj hoj=>?_) (fun w1 hs=>⟨RS.tL w1,hs.2⟩) _ L a w ?_ (fun j hj=>?_) (Region.free_spec ho h2) (by simpa using h3) hy ⟨RS.tL w,hW.inv⟩ ?_
   ·have:=h4 j (by simpa[D]using hj);rw[hoj]at this;simp only[Array.any_eq_true',alL,alV,beq_iff_eq]at this;exact this.2
   ·intro j w1 w2 hj1 hj2 hj3 hj4 hs hg;exact⟨hs.1.trans hg.1 fun b _ hb=>⟨j,hj1,hj2,hj3,hj4,hb⟩,hg.2⟩
   ·exact(h4 j (by simpa[D]using hj)).1
   ·exact hv hns _ hL β H _ w hF' hW
  rcases HI h hF with⟨hw,fr,hF',hi,hyes⟩ | ⟨hw,fr,hF',hno'⟩
  ·obtain⟨c,x,hx,hc,hd,hnx⟩:=mC h1 hi hyes;obtain⟨v,hv1,hv2⟩:=BY (st:=⟨st.n,fr,st.M⟩) hW hF' hx hc hi hUk;exact core v (.inl ⟨hw,hv1⟩) ⟨_,hF'.cX hd hv2,hnx⟩
  ·exact core undef (.inr ⟨hw,rfl⟩) ⟨fr,hF',hno'⟩
theorem ju.lI {i:Nat} {ks:List Nat} {r:Pl} (h:match ops[i]? with
  | none=>False
  | some o=>gd ops o st (fun st'=>((okW ks st' o.op∧sL ks r o.op)∧r.there st'.M)∧cf P C (some (nb ks)) o st' (fun st''=>ju P C ops r st'' R) (fun st''=>ju P C ops r st'' R)) (fun st'=>ju P C ops r st' R)):ju P C ops (.l i ks r) st R:=fun hns L hL β H a w hF hW=>by
 simp only[dD,alL,beq_iff_eq]at hL;split at h
 ·exact h.elim
 ·rename_i o ho;exact zf hL.1 (jm ho hns hL.2 (fun _ h=>h) (fun _ h=>h) (fun _ h=>h) h hF hW (fun k hk=>by simp[Pl.Y,one,hk]) (fun j k hk=>by simp[Pl.Y,hk]) (Nat.le_refl _))
theorem aa.VY{id:Nat}(pl:Pl)(hm:P.follows .mixedOrders=true)(hp:(Region.noSelect ops&&(dD ops (Array.replicate ops.size false) pl&&decide (pl.len≤ops.size)))=true)
  (h:ju P C ops pl st R):aa P C (.region id ops true) st R:=by
 simp only[alL,decide_eq_true_eq]at hp;rintro a w ⟨β,H,hF,hW⟩;exact wp_region_any hm (qK _ _ _ _ (vj hp.2.2 (h hp.1 _ hp.2.1 β H a _ hF hW.drew)))
end
section
variable {P:Program} {C:Ctx} {β:bU} {H:Hp} {M:aJ} {w:World}
end
section
variable {P:Program} {C:Ctx} {st:St}
end
end Go.Sv
namespace Go.Sv
open Go
theorem Le.perm{C:Ctx}(hC:C.fx=[])(σ:Nat→Nat){st st':St}(hn:st.n=st'.n)(hi:∀k k',k<st'.M.length→k'<st'.M.length→σ k=σ k'→k=k')(hl:∀k,st'.M.length≤k→st.M.length≤σ k)
  (hM:∀(k:Nat) (e:cx),st'.M[k]?=some (some e)→st.M[σ k]?=some (some (gE σ e))) (hf:∀t x,get st'.fr t=some x→get st.fr t=some (gV σ x)):Le C st st':=by
 rintro a w ⟨β,H,hF,hW⟩;have lt:∀(k:Nat) (e:cx),st'.M[k]?=some (some e)→k<st'.M.length:=fun k e h=>(alA.1 h).1;refine⟨fun k=>β (σ k),H,⟨⟨hF.1.1,hF.1.2⟩,by rw[←hn];exact hF.2.1,fun t x hg=>?_⟩,?_⟩
 ·obtain⟨v,h1,h2⟩:=hF.2.2 t _ (hf t x hg);exact⟨v,h1,lz.1 h2⟩
 ·refine⟨hW.os,hW.tape,hW.output,hW.size,hW.frame,hW.ext,hW.new,hW.inv,fun k e hk=>nR.gV.1 (hW.db _ _ (hM k e hk)),fun k e d hk hd=>hW.own (σ k) (gE σ e) d (hM k e hk) hd,
   fun k k' e e' d d' hk hk' hd hd' he=>hi k k' (lt k e hk) (lt k' e' hk') (hW.inj _ _ _ _ _ _ (hM k e hk) (hM k' e' hk') hd hd' he),fun k hk=>hW.fresh _ (hl k hk),fun k d hk=>absurd hk (by rw[hC];simp),hW.eN⟩
def ajD(C:Ctx)(st1:St):aX:=fun e s=>match e with
 | .normal=>Le C s st1
 | _=>False
/-! plans whose equal parts are told once -/
section
variable {P:Program} {C:Ctx} {ops:Array Oper} {st:St} {R:aX}
theorem po.stop:po P C ops .stop st R:=fun _ L _ β H a w _ _ Y' n _ _ j hj=>by simp[Pl.sK]at hj
theorem po.cons {i:Nat} {ks:List Nat} {r p:Pl} (h:match ops[i]? with
  | none=>False
  | some o=>gd ops o st (fun st'=>((okW ks st' o.op∧sL ks r o.op)∧r.there st'.M)∧cf P C (some (nb ks)) o st' (fun st''=>ju P C ops r st'' R) (fun st''=>ju P C ops r st'' R)) (fun st'=>ju P C ops r st' R)) (hp:po P C ops p st R):po P C ops (.alt i ks r p) st R:=fun hns L hL β H a w hF hW Y' n hY hn j hj=>by
 simp only[l3,alL]at hL;split at h
 ·exact h.elim
 ·rename_i o ho;simp only[Pl.len]at hn;simp only[Pl.sK,List.mem_cons]at hj;rcases hj with rfl | hj
  ·exact jm ho hns hL.1 (fun _ h=>h) (fun _ h=>h) (fun _ h=>h) h hF hW (fun k hk=>hY j k (by simp[Pl.Y,one,hk])) (fun j' k hk=>hY j' k (by simp[Pl.Y,hk])) (by omega)
  ·exact hp hns L hL.2 β H a w hF hW Y' n (fun j' k hk=>hY j' k (by simp[Pl.Y,hk])) (by omega) j hj
theorem ju.ady{i:Nat}{ks:List Nat}{r p:Pl}(h:po P C ops (.alt i ks r p) st R):ju P C ops (.alt i ks r p) st R:=fun hns L hL β H a w hF hW=>by
 simp only[dD,alL,beq_iff_eq]at hL;have hlen:(Pl.alt i ks r p).len=(max r.len (p.len - 1))+1:=by simp only[Pl.len];omega
 rw[hlen];refine DG hL.1 (by simp) fun j hj=>?_;exact h hns L (by simp only[l3,alL];exact hL.2) β H a w hF hW _ _ (fun j k hk=>hk) (by omega) j (by simpa[Pl.sK]using hj)
def px(l:List Nat)(k:Nat):Nat:=if k<l.length then l.getD k 0 else k
theorem ju.qO{i:Nat}{ks:List Nat}{r:Pl}{o:Oper}(ho:ops[i]?=some o)(np:∀c st,¬R (.panic c) st)(h:gd ops o st (fun st'=>ue ks st' o.op∧cf P C none o st' (fun st''=>ju P C ops r st'' R) (fun _=>False)) (fun st'=>ju P C ops r st' R)):ju P C ops (.q i ks r) st R :=
 ju.qI np (by rw[ho];exact h)
theorem ju.lO{i:Nat}{ks:List Nat}{r:Pl}{o:Oper}(ho:ops[i]?=some o)(h:gd ops o st (fun st'=>((okW ks st' o.op∧sL ks r o.op)∧r.there st'.M)∧cf P C (some (nb ks)) o st' (fun st''=>ju P C ops r st'' R) (fun st''=>ju P C ops r st'' R)) (fun st'=>ju P C ops r st' R)):ju P C ops (.l i ks r) st R :=
 ju.lI (by rw[ho];exact h)
theorem po.Aw{i:Nat}{ks:List Nat}{r p:Pl}{o:Oper}(ho:ops[i]?=some o)(h:gd ops o st (fun st'=>((okW ks st' o.op∧sL ks r o.op)∧r.there st'.M)∧cf P C (some (nb ks)) o st' (fun st''=>ju P C ops r st'' R) (fun st''=>ju P C ops r st'' R)) (fun st'=>ju P C ops r st' R))(hp:po P C ops p st R):po P C ops (.alt i ks r p) st R :=
 po.cons (by rw[ho];exact h) hp
end
end Go.Sv
namespace Go.Sv
open Go
section
variable {P:Program} {C:Ctx} {ops:Array Oper} {R:aX} {st:St}
theorem cU.mono{f:FuncId}{args:List SV}{M:aJ}{W:Option (List Nat)}{K K':aJ→List Nat→SV→Prop}(h:cU P C f args M W K)(hk:∀M' pk x,K M' pk x→K' M' pk x):cU P C f args M W K':=fun β H w vals hd hW =>
 Calls.mono (h β H w vals hd hW) fun e w' ⟨β',H',M',v,x,pk,h1,h2,h3,h4,h5,h6,h7⟩=>⟨β',H',M',v,x,pk,h1,h2,h3,h4,h5,hk _ _ _ h6,h7⟩
theorem cf.mono{W:Option (List Nat)}{o:Oper}{n1 j1 n2 j2:St→Prop}(h:cf P C W o st n1 j1)(hn:∀s,n1 s→n2 s)(hj:∀s,j1 s→j2 s):cf P C W o st n2 j2:=by
 unfold cf at h ⊢;split at h
 ·exact⟨h.1,h.2.1,hn _ h.2.2⟩
 ·split at h
  ·exact⟨h.1,h.2.1,hn _ h.2.2⟩
  ·split at h
   ·split at h
    ·exact⟨h.1,h.2.1,h.2.2.mono fun _ _ _=>hj _⟩
    ·exact h.elim
   ·split at h
    ·exact⟨h.1,h.2.1,h.2.2.mono fun _ _ _=>hj _⟩
    ·exact h.elim
   ·exact h.elim
theorem gd.mono{o:Oper}{y1 y2 z1 z2:St→Prop}(h:gd ops o st y1 z1)(hy:∀s,y1 s→y2 s)(hz:∀s,z1 s→z2 s):gd ops o st y2 z2:=by
 unfold gd at h ⊢;split at h
 ·exact hy _ h
 ·split at h
  ·split at h
   ·exact⟨fun q=>hy _ (h.1 q),fun q=>hz _ (h.2 q)⟩
   ·exact hz _ h
   ·exact h.elim
  ·exact h.elim
def Pl.app(i:Nat):Pl→Pl
 | .nil=>.l i [m6] .nil
 | .stop=>.stop
 | .q j ks r=>.q j ks (r.app i)
 | .l j ks r=>.l j ks (r.app i)
 | .alt j ks r p=>.alt j ks (r.app i) (p.app i)
 | .m _ _ _ _ _ _=>.stop
theorem Pl.kg(i:Nat)(M:aJ):∀{pl:Pl},pl.there M→(pl.app i).there M
 | .nil,_=>⟨.inl (by simp),trivial⟩
 | .stop,_=>trivial
 | .q _ _ r,h=>Pl.kg i M (pl:=r) h
 | .l _ _ r,h=>⟨h.1,Pl.kg i M (pl:=r) h.2⟩
 | .alt _ _ r p,h=>⟨h.1,Pl.kg i M (pl:=r) h.2.1,Pl.kg i M (pl:=p) h.2.2⟩
 | .m _ _ _ _ _ _,_=>trivial
theorem Pl.oh(i:Nat):∀{pl:Pl},pl.jg=true→(pl.app i).jg=true
 | .nil,_=>by simp[Pl.app,Pl.jg]
 | .stop,_=>rfl
 | .q _ _ r,h=>Pl.oh i (pl:=r) h
 | .l _ _ r,h=>by
  simp only[Pl.app,Pl.jg,alL]at h ⊢;exact⟨h.1,Pl.oh i h.2⟩
 | .alt _ _ r p,h=>by
  simp only[Pl.app,Pl.jg,alL]at h ⊢;exact⟨h.1,Pl.oh i h.2.1,Pl.oh i h.2.2⟩
 | .m _ _ _ _ _ _,_=>rfl
theorem HM{i:Nat}{ks:List Nat}{r:Pl}{o:Op}(h:sL ks r o):sL ks (r.app i) o:=by
 unfold sL at h ⊢;split at h
 ·exact h.imp id fun q=>⟨q.1,Pl.oh i q.2⟩
 ·trivial
def JK(P:Program)(C:Ctx)(f:FuncId)(d:Option Nat)(R:aX)(st:St):Option (List SV)→Prop
 | some xs=>ak P f∧rS d st.n∧cU P C f xs st.M none fun M' pk x=>R .normal ⟨st.n,cX d (some x) (forget pk st.fr),M'⟩
 | none=>False
@[simp] theorem OK{f:FuncId}{d:Option Nat}{xs:List SV}:JK P C f d R st (some xs)=(ak P f∧rS d st.n∧cU P C f xs st.M none fun M' pk x=>R .normal ⟨st.n,cX d (some x) (forget pk st.fr),M'⟩):=rfl
def Iu(P:Program)(C:Ctx)(f:FuncId)(l:List Operand)(d:Option Nat)(R:aX):aX:=fun e st=>match e with
 | .normal=>JK P C f d R st (qc st.fr l)
 | _=>False
@[simp] theorem afj{f:FuncId}{l:List Operand}{d:Option Nat}:Iu P C f l d R .normal st=JK P C f d R st (qc st.fr l):=rfl
theorem ju.ab3{i:Nat}{o:Oper}{f:FuncId}{args:Array Operand}{ts:Array TypeId}(ho:ops[i]?=some o)(hg:o.guard=none)(hop:o.op=.call ⟨.value (.func f),args,ts⟩)(h:JK P C f o.dst R st (qc st.fr args.toList)):ju P C ops (.l i [m6] .nil) st R:=fun hns L hL β H a w hF hW=>by
 simp only[dD,alL,beq_iff_eq,List.isEmpty_iff]at hL;refine zf hL.1 ?_;unfold wpOp;simp only[ho];rw[if_pos (by simp[Region.wanted,hg])];left;cases hxs:qc st.fr args.toList with
 | none=>rw[hxs]at h;exact h.elim
 | some xs =>
  rw[hxs]at h;obtain⟨hf,hd,hcall⟩:=h;have hrun:(execOp a.eval o).run P w=.ok (.enter f (args.map a.eval)) w:=by
   obtain⟨dst,op,type,pos,after,guard⟩:=o;simp only at hop;subst hop;simp only[execOp,resolve,Act.eval,Deferred.ofValue,Sem.run_bind,Sem.run_pure,Result.andThen_ok,invoke];simpa using hf (args.map a.eval) w
  simp only[Oper.wp,hrun,Oper.upon];have hvals:=iV hF _ _ hxs;have:=hcall β H w _ hvals hW;rw[show(args.toList.map a.eval).toArray=args.map a.eval from by apply Array.ext';simp]at this;refine Calls.mono this ?_;rintro e w' ⟨β',H',M',v,x,pk,rfl,g1,g2,g3,g4,g5,g6, -⟩;have hb:∀b,Wb β w.heap.size ((Pl.l i [m6] .nil).Y i) b:=fun b=>by
   have:m6∈(Pl.l i [m6] .nil).Y i:=by simp[Pl.Y,one]
   exact⟨fun e=>(by rw[e]at this;cases this),.inl this⟩
  exact⟨⟨⟨g6,fun b _ hu=>absurd (hb b) hu⟩,l6.mono (H':=H') g2.inv g4⟩,hL.2,_,g5,β',H',(hF.forget g3 g4).cX hd g1,g2⟩
theorem ju.app{i:Nat}{o:Oper}{f:FuncId}{args:Array Operand}{ts:Array TypeId}(np:∀c st,¬R (.panic c) st)(ho:ops[i]?=some o)(hg:o.guard=none)(hop:o.op=.call ⟨.value (.func f),args,ts⟩) :
  ∀(pl:Pl) (st:St),dW P C ops pl st (Iu P C f args.toList o.dst R) (Iu P C f args.toList o.dst R)→ju P C ops (pl.app i) st R∧po P C ops (pl.app i) st R
 | .nil,st,h=>⟨ju.ab3 ho hg hop h,fun _ L hL=>by simp[Pl.app,l3]at hL⟩
 | .stop,st,_=>⟨fun _ L hL=>by simp[Pl.app,dD]at hL,po.stop⟩
 | .q j ks r,st,h=>⟨(by
   simp only[dW]at h;split at h
   ·exact h.elim
   ·rename_i o' ho';exact ju.qO ho' np (gd.mono h (fun s hs=>⟨hs.1,hs.2.mono (fun s h=>(ju.app np ho hg hop r s h).1) fun _ h=>h⟩) fun s h=>(ju.app np ho hg hop r s h).1)),fun _ L hL=>by simp[Pl.app,l3]at hL⟩
 | .l j ks r,st,h=>⟨(by
   simp only[dW]at h;split at h
   ·exact h.elim
   ·rename_i o' ho';exact ju.lO ho' (gd.mono h (fun s hs=>⟨⟨⟨hs.1.1.1,HM hs.1.1.2⟩,Pl.kg i _ hs.1.2⟩,hs.2.mono (fun s h=>(ju.app np ho hg hop r s h).1) fun s h=>(ju.app np ho hg hop r s h).1⟩) fun s h=>(ju.app np ho hg hop r s h).1)),fun _ L hL=>by simp[Pl.app,l3]at hL⟩
 | .alt j ks r p,st,h=>by
  have key:po P C ops (.alt j ks (r.app i) (p.app i)) st R:=by
   have hp:=(ju.app np ho hg hop p st h.2).2;have h:=h.1;split at h
   ·exact h.elim
   ·rename_i o' ho';exact po.Aw ho' (gd.mono h (fun s hs=>⟨⟨⟨hs.1.1.1,HM hs.1.1.2⟩,Pl.kg i _ hs.1.2⟩,hs.2.mono (fun s h=>(ju.app np ho hg hop r s h).1) fun s h=>(ju.app np ho hg hop r s h).1⟩) fun s h=>(ju.app np ho hg hop r s h).1) hp
  exact⟨ju.ady key,key⟩
 | .m _ _ _ _ _ _,st,_=>⟨fun _ L hL=>by simp[Pl.app,dD]at hL,po.stop⟩
theorem aa.Jv{id i:Nat}{o:Oper}{f:FuncId}{args:Array Operand}{ts:Array TypeId}(pl:Pl)(hm:P.follows .mixedOrders=true)(hp:(Region.noSelect ops&&(dD ops (Array.replicate ops.size false) (pl.app i)&&decide ((pl.app i).len≤ops.size)))=true)
  (np:∀c st,¬R (.panic c) st) (ho:ops[i]?=some o) (hg:o.guard=none) (hop:o.op=.call ⟨.value (.func f),args,ts⟩) (h:dW P C ops pl st (Iu P C f args.toList o.dst R) (Iu P C f args.toList o.dst R)):aa P C (.region id ops true) st R :=
 aa.VY (pl.app i) hm hp (ju.app np ho hg hop pl st h).1
end
end Go.Sv

