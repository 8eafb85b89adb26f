/- A text of the prover's own. -/
import Derived.Test.YtnimjdcaajmfcaaGreatDoorUVe
namespace Go.Sv
open Go Go.RowKit
section
variable {P:Program} {C:Ctx} {β:Bnd} {H:Hp} {M:Tab} {w:World}
end
section
variable {P:Program} {C:Ctx} {all:Array Oper} {rest:List Oper} {st:St} {R:Post}
end
/-! code in pieces -/
section
variable {P:Program} {C:Ctx} {st:St} {Q:Post}
theorem CodeJ.seqI {x y:Code} (h:CodeJ P C x st (thn (fun st'=>CodeJ P C y st' Q) Q)):CodeJ P C (.seq x y) st Q:=by
 intro a w hs
 refine wp_seq (wp_mono (h a w hs) ?_)
 rintro e a' w' ⟨st',h2,h3⟩
 cases e<;>simp only [thn,Exit.then] at h2 ⊢<;>first | exact h2 a' w' h3 | exact ⟨st',h2,h3⟩
end
section
variable {P:Program} {C:Ctx} {M:Tab}
theorem call_hereC {f:FuncId} {fn:Func} {c:Code} {args:List SV} {W:Option (List Nat)} {k:Tab→List Nat→SV→Prop} (hf:P.funcs[f]?=some fn) (hb:fn.body=some c) (hn:args.length≤fn.ntmps) (pk:List Nat)
  (hpk:∀i∈pk,i∉C.fx) (hWk:∀ks,W=some ks→pk=[]∧∀i e,tget M i=some e→i∈ks)
  (h:∀C':Ctx,C'.fx=(List.range M.length).filter (fun i=>!pk.contains i)→CodeJ P C' c ⟨fn.ntmps,argFr 0 args,M⟩ (retH P fn.results.toList pk k)):CallJ P C f args M W k:=by
 intro β H w vals hd hW
 refine calls_of_wp hf hb ?_
 let X:List Nat:=(List.range M.length).filterMap fun i=>match tget M i,β i with
  | some _,some (some d)=>some d.b
  | _,_=>none
 have hX:∀b,b∈X↔∃i e d,tget M i=some e∧β i=some (some d)∧d.b=b:=fun b=>by
  simp only [X,List.mem_filterMap,List.mem_range]
  constructor
  ·rintro ⟨i,hi,he⟩
   split at he
   ·rename_i e d h1 h2;simp only [Option.some.injEq] at he;exact ⟨i,e,d,h1,h2,he⟩
   ·cases he
  ·rintro ⟨i,e,d,hi,hd,rfl⟩
   refine ⟨i,?_,by simp [hi,hd]⟩
   have:=tget_some hi
   exact (List.getElem?_eq_some_iff.1 this).1
 have hown:∀b,b∈X→C.w0.heap.size≤b∨b∈C.X:=fun b hb=>by
  obtain ⟨i,e,d,h1,h2,rfl⟩:=(hX b).1 hb
  exact (hW.own i e d (tget_some h1) h2).2
 let C':Ctx:=⟨w,H,X,β,(List.range M.length).filter (fun i=>!pk.contains i)⟩
 have hfx:∀i d,i∉pk→β i=some d→i∈C'.fx:=fun i d hi hd=>by
  have:i<M.length:=by
   rcases Nat.lt_or_ge i M.length with h' | h'
   ·exact h'
   ·rw [hW.fresh i h'] at hd;cases hd
  simp [C',this,hi]
 have hW0:WOK C' β H M w:=⟨rfl,rfl,rfl,Nat.le_refl _,fun _ _ _=>rfl,fun _ _ h=>h,fun _ _ h=>.inl h,hW.inv,hW.ents,
  fun i e d hi hd=>⟨(hW.own i e d hi hd).1,.inr ((hX _).2 ⟨i,e,d,tget_of hi,hd,rfl⟩)⟩,hW.inj,hW.fresh,fun _ _ _ h=>h,hW.glob⟩
 refine wp_mono (h C' rfl _ w ⟨β,H,arg_fok hd hn hW.glob rfl (by simp),hW0⟩) ?_
 rintro e a w' ⟨st,hq,β',H',hF,hW'⟩
 have hkeep:∀i d,i∉pk→β i=some d→β' i=some d:=fun i d hi hd=>hW'.keep i d (hfx i d hi hd) hd
 have hWC:WOK C β' H' st.M w':=⟨hW'.os.trans hW.os,hW'.tape.trans hW.tape,hW'.output.trans hW.output,Nat.le_trans hW.size hW'.size,
  fun b hb hx=>by
   rw [hW'.frame b (Nat.lt_of_lt_of_le hb hW.size) (fun hbX=>by rcases hown b hbX with h' | h';omega;exact hx h')];exact hW.frame b hb hx,
  fun b cs hb=>hW'.ext b cs (hW.ext b cs hb),
  fun b cs hb=>by
   rcases hW'.new b cs hb with h' | h' | h'
   ·exact hW.new b cs h'
   ·exact .inr (.inl (Nat.le_trans hW.size h'))
   ·exact .inr (hown b h'),
  hW'.inv,hW'.ents,
  fun i e d hi hd=>⟨(hW'.own i e d hi hd).1,by
   rcases (hW'.own i e d hi hd).2 with h' | h'
   ·exact .inl (Nat.le_trans hW.size h')
   ·exact hown _ h'⟩,
  hW'.inj,hW'.fresh,fun i d hi hd=>hkeep i d (fun hp=>hpk i hp hi) (hW.keep i d hi hd),hW'.glob⟩
 have key:(match retSV P st fn.results.toList with | some (c,x)=>c∧k st.M pk x | none=>False) →
   a.defers=[]∧∃v,(results fn a.tmps).run P w'=.ok v w'∧∃β' H' M' v' x pk,Ending.returned v=.returned v'∧Den β' H' x v'∧WOK C β' H' M' w'∧(∀k d,k∉pk→β k=some d→β' k=some d)∧(∀b cs,H b=some cs→H' b=some cs)∧k M' pk x ∧
    w.heap.size≤w'.heap.size∧∀ks,W=some ks→pk=[]∧∀b,b<w.heap.size→(∀k∈ks,∀d,β k=some (some d)→b≠d.b)→w'.heap[b]?=w.heap[b]?:=by
  intro hq
  refine ⟨hF.1.1,?_⟩
  split at hq
  ·rename_i c' x hr
   obtain ⟨v,hv1,hv2⟩:=ret_ok hF hW' hr hq.1
   refine ⟨v,hv1,β',H',st.M,v,x,pk,rfl,hv2,hWC,hkeep,hW'.ext,hq.2,hW'.size,fun ks hks=>?_⟩
   obtain ⟨g1,g2⟩:=hWk ks hks
   refine ⟨g1,fun b hb hn=>hW'.frame b hb fun hbX=>?_⟩
   obtain ⟨i,e,d,h1,h2,rfl⟩:=(hX b).1 hbX
   exact hn i (g2 i e h1) d h2 rfl
  ·exact hq.elim
 cases e<;>simp only [retH] at hq<;>simp only [bodyPost]
 case normal=>exact key hq
 case ret=>exact key hq
theorem eff_enterC {f:FuncId} {fn:Func} {c:Code} {args:List SV} {T:Tab} {pk:List Nat} {Φ:Tab→SV→Prop} (hf:P.funcs[f]?=some fn) (hb:fn.body=some c) (hn:args.length≤fn.ntmps)
  (h:∀C':Ctx,C'.fx=(List.range T.length).filter (fun i=>!pk.contains i)→CodeJ P C' c ⟨fn.ntmps,argFr 0 args,T⟩ (retH P fn.results.toList pk (effK T pk Φ))):EffC P f args T pk Φ:=by
 intro C hC
 exact call_hereC hf hb hn pk (fun i _ hi=>by rw [hC] at hi;cases hi) (fun ks h=>by cases h) h
end
end Go.Sv
namespace Go.Sv
open Go Go.RowKit
section
variable {P:Program} {C:Ctx} {ops:Array Oper} {R:Post} {st:St}
theorem PlJ.qI {i:Nat} {ks:List Nat} {r:Pl} (np:∀c st,¬R (.panic c) st) (h:match ops[i]? with
  | none=>False
  | some o=>gd ops o st (fun st'=>okI ks st' o.op∧vcOp P C none o st' (fun st''=>PlJ P C ops r st'' R) (fun _=>False)) (fun st'=>PlJ P C ops r st' R)):PlJ P C ops (.q i ks r) st R:=fun hns L hL β H a w hF hW=>by
 simp only [planOK,Bool.and_eq_true] at hL
 obtain ⟨hq,hL⟩:=hL
 split at h
 ·exact h.elim
 ·rename_i o ho
  simp only [qOK,ho,Bool.and_eq_true] at hq
  obtain ⟨h1,h2,h3,h4,h5⟩:=hq
  simp only [List.all_eq_true,Bool.and_eq_true,Bool.not_eq_true'] at h4
  let D:Nat→Bool:=fun j=>(dsc ops i).contains j
  let U:Nat→Prop:=fun b=>∃j,j<ops.size∧j≠i∧D j=false∧L.getD j true=false∧Wb β w.heap.size (r.Y j) b
  have hUk:(∃t x,o.op=.load t x)→∀b,U b→b<w.heap.size→big∈ks∨∃k∈ks,∃d,β k=some (some d)∧d.b=b:=by
   rintro ⟨t',x',hop⟩ b ⟨j,hj1,hj2,hj3,hj4,hw1,hw2⟩ hb
   obtain ⟨dst,op,type,pos,after,guard⟩:=o
   simp only at hop
   subst hop
   simp only [List.all_eq_true,List.mem_range,Bool.or_eq_true,beq_iff_eq] at h5
   have hks:∀k∈r.Y j,k∈ks:=fun k hk=>by
    rcases h5 j hj1 with h | h | h | h
    ·exact absurd h hj2
    ·rw [hj4] at h;cases h
    ·rw [show (dsc ops i).contains j=false from hj3] at h;cases h
    ·have:=h k hk;simpa using this
   rcases hw2 with hw2 | hw2 | ⟨k,hk,d,hd,hdb⟩
   ·exact .inl (hks _ hw2)
   ·omega
   ·exact .inr ⟨k,hks k hk,d,hd,hdb⟩
  have core:∀v,YieldsIf P ops (fun w'=>RS U w w'∧InvC H w') o v a→(∃fr,FOK β H st.n fr (a.put o.dst v)∧PlJ P C ops r ⟨st.n,fr,st.M⟩ R)→wpG P ops (QQ C R) (fun j w1 w2=>GG H (Wb β w.heap.size ((Pl.q i ks r).Y j)) w1 w2) (Pl.q i ks r).len L a w:=by
   rintro v hy ⟨fr,hF',hv⟩
   refine wpG_first (D:=D) (S:=fun w'=>RS U w w'∧InvC H w') ho (Region.noSelect_spec hns) (fun c a' w' ⟨st',hp,_⟩=>absurd hp (np c st')) (fun j oj hj hoj=>?_) (fun w1 hs=>⟨RS.rfl' w1,hs.2⟩) _ L a w ?_ (fun j hj=>?_) (Region.free_spec ho h2) (by simpa using h3) hy ⟨RS.rfl' w,hW.inv⟩ ?_
   ·have:=h4 j (by simpa [D] using hj)
    rw [hoj] at this
    simp only [Array.any_eq_true',Bool.and_eq_true,Bool.or_eq_true,beq_iff_eq] at this
    exact this.2
   ·intro j w1 w2 hj1 hj2 hj3 hj4 hs hg
    exact ⟨hs.1.trans hg.1 fun b _ hb=>⟨j,hj1,hj2,hj3,hj4,hb⟩,hg.2⟩
   ·exact (h4 j (by simpa [D] using hj)).1
   ·exact hv hns _ hL β H _ w hF' hW
  rcases gd_ok h hF with ⟨hw,fr,hF',hi,hyes⟩ | ⟨hw,fr,hF',hno'⟩
  ·obtain ⟨c,x,hx,hc,hd,hnx⟩:=vcOp_quiet h1 hi hyes
   obtain ⟨v,hv1,hv2⟩:=evQ_if (st:=⟨st.n,fr,st.M⟩) hW hF' hx hc hi hUk
   exact core v (.inl ⟨hw,hv1⟩) ⟨_,hF'.putO hd hv2,hnx⟩
  ·exact core undef (.inr ⟨hw,rfl⟩) ⟨fr,hF',hno'⟩
theorem PlJ.lI {i:Nat} {ks:List Nat} {r:Pl} (h:match ops[i]? with
  | none=>False
  | some o=>gd ops o st (fun st'=>((okW ks st' o.op∧okA ks r o.op)∧r.there st'.M)∧vcOp P C (some (nb ks)) o st' (fun st''=>PlJ P C ops r st'' R) (fun st''=>PlJ P C ops r st'' R)) (fun st'=>PlJ P C ops r st' R)):PlJ P C ops (.l i ks r) st R:=fun hns L hL β H a w hF hW=>by
 simp only [planOK,Bool.and_eq_true,beq_iff_eq] at hL
 split at h
 ·exact h.elim
 ·rename_i o ho
  exact wpG_one hL.1 (loud_step ho hns hL.2 (fun _ h=>h) (fun _ h=>h) (fun _ h=>h) h hF hW (fun k hk=>by simp [Pl.Y,one,hk]) (fun j k hk=>by simp [Pl.Y,hk]) (Nat.le_refl _))
theorem CodeJ.drawP {id:Nat} (pl:Pl) (hm:P.follows .mixedOrders=true) (hp:(Region.noSelect ops&&(planOK ops (Array.replicate ops.size false) pl&&decide (pl.len≤ops.size)))=true)
  (h:PlJ P C ops pl st R):CodeJ P C (.region id ops true) st R:=by
 simp only [Bool.and_eq_true,decide_eq_true_eq] at hp
 rintro a w ⟨β,H,hF,hW⟩
 exact wp_region_any hm (wpG_any _ _ _ _ (wpG_le hp.2.2 (h hp.1 _ hp.2.1 β H a _ hF hW.drew)))
end
section
variable {P:Program} {C:Ctx} {β:Bnd} {H:Hp} {M:Tab} {w:World}
end
section
variable {P:Program} {C:Ctx} {st:St}
end
end Go.Sv

