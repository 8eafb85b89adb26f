/- A text of the prover's own. -/
import Derived.Test.YtmghjkkjaolpgaaGreatDoorUVe
open List renaming range→amP,getElem?_eq_some_iff→amH
namespace Go.Sv
open Go Go.RowKit
section
variable {P:Program} {C:Ctx} {β:bO} {H:Hp} {M:aJ} {w:World}
end
section
variable {P:Program} {C:Ctx} {all:Array Oper} {rest:List Oper} {st:St} {R:aV}
end
/-! code in pieces -/
section
variable {P:Program} {C:Ctx} {st:St} {Q:aV}
theorem ae.xf{x y:Code}(h:ae P C x st (qE (fun st'=>ae P C y st' Q) Q)):ae P C (.seq x y) st Q:=by
 intro a w hs;refine wp_seq (wp_mono (h a w hs) ?_);rintro e a' w' ⟨st',h2,h3⟩;cases e<;>simp only[qE,Exit.then]at h2 ⊢<;>first | exact h2 a' w' h3 | exact⟨st',h2,h3⟩
theorem ae.zU{id:Nat}{c:Code}(h:ae P C c st (CZ id Q)):ae P C (.block id c) st Q:=by
 intro a w hs;refine wp_block (wp_mono (h a w hs) ?_);rintro e a' w' ⟨st',h2,h3⟩;cases e<;>simp only[CZ,Exit.inBlock]at h2 ⊢<;>first | exact⟨st',h2,h3⟩ | (split at h2<;>rename_i e<;>first | (rw[if_pos e];exact⟨st',h2,h3⟩) | (rw[if_neg e];exact⟨st',h2,h3⟩))
theorem ae.jz{c:Operand}{x y:Code}(b:Bool)(hb:ev st.fr c=some (.val (.bool b)))(h1:b=true→ae P C x st Q)(h2:b=false→ae P C y st Q):ae P C (.cond c x y) st Q:=by
 rintro a w ⟨β,H,hF,hW⟩;have hden:=yM hF hb;simp only[Den]at hden;exact wp_cond_split hden.1 (fun ht=>h1 ht a w ⟨β,H,hF,hW⟩) (fun hf=>h2 hf a w ⟨β,H,hF,hW⟩)
theorem ae.mj{id:Nat}{ops:Array Oper}(h:r5 P C ops ops.toList st Q):ae P C (.region id ops false) st Q:=fun a w hs=>wp_region_list (h a w hs)
theorem ae.Hk{c:Code}{ι:Type}(I:ι→St)(Cn:ι→Prop)(μ:ι→Nat)(i0:ι)(h0:Cn i0)(hl:ar C st (I i0))
  (hr:∀i,Cn i→ae P C c (I i) (qE (fun st'=>∃j,Cn j∧μ j<μ i∧Le C st' (I j)) Q)):ae P C (.loop c) st Q:=by
 intro a w hs;refine pC (fun i a w=>Cn i∧JO C (I i) a w) μ i0 ⟨h0,Le.ct hl a w hs⟩ ?_;rintro i a w ⟨hc,hs⟩;refine wp_mono (hr i hc a w hs) ?_;rintro e a' w' ⟨st',h1,h2⟩;cases e<;>simp only[qE,Exit.then]at h1 ⊢<;>first | exact⟨st',h1,h2⟩ | skip
 obtain⟨j,g1,g2,g3⟩:=h1;exact⟨j,⟨g1,g3 a' w' h2⟩,g2⟩
end
section
variable {P:Program} {C:Ctx} {M:aJ}
theorem CF{f:FuncId}{fn:Func}{c:Code}{args:List SV}{W:Option (List Nat)}{k:aJ→List Nat→SV→Prop}(hf:P.funcs[f]?=some fn)(hb:fn.body=some c)(hn:args.length≤fn.ntmps)(pk:List Nat)
  (hpk:∀i∈pk,i∉C.fx) (hWk:∀ks,W=some ks→pk=[]∧∀i e,ao M i=some e→i∈ks)
  (h:∀C':Ctx,C'.fx=(amP M.length).filter (fun i=>!pk.contains i)→ae P C' c ⟨fn.ntmps,kO 0 args,M⟩ (l8 P fn.results.toList pk k)):dH P C f args M W k:=by
 intro β H w vals hd hW;refine calls_of_wp hf hb ?_
 let X:List Nat:=(amP M.length).filterMap fun i=>match ao M i,β i with
  | some _,some (some d)=>some d.b
  | _,_=>none
 have hX:∀b,b∈X↔∃i e d,ao M i=some e∧β i=some (some d)∧d.b=b:=fun b=>by
  simp only[X,List.mem_filterMap,List.mem_range];constructor
  ·rintro⟨i,hi,he⟩;split at he
   ·rename_i e d h1 h2;simp only[Option.some.injEq]at he;exact⟨i,e,d,h1,h2,he⟩
   ·cases he
  ·rintro⟨i,e,d,hi,hd,rfl⟩;refine⟨i,?_,by simp[hi,hd]⟩;have:=aL hi;exact(amH.1 this).1
 have hown:∀b,b∈X→C.w0.heap.size≤b∨b∈C.X:=fun b hb=>by
  obtain⟨i,e,d,h1,h2,rfl⟩:=(hX b).1 hb;exact(hW.own i e d (aL h1) h2).2
 let C':Ctx:=⟨w,H,X,β,(amP M.length).filter (fun i=>!pk.contains i)⟩
 have hfx:∀i d,i∉pk→β i=some d→i∈C'.fx:=fun i d hi hd=>by
  have:i<M.length:=by
   rcases Nat.lt_or_ge i M.length with h' | h'
   ·exact h'
   ·rw[hW.fresh i h']at hd;cases hd
  simp[C',this,hi]
 have hW0:cv C' β H M w:=⟨rfl,rfl,rfl,Nat.le_refl _,fun _ _ _=>rfl,fun _ _ h=>h,fun _ _ h=>.inl h,hW.inv,hW.da,
  fun i e d hi hd=>⟨(hW.own i e d hi hd).1,.inr ((hX _).2 ⟨i,e,d,DX hi,hd,rfl⟩)⟩,hW.inj,hW.fresh,fun _ _ _ h=>h,hW.eW⟩
 refine wp_mono (h C' rfl _ w ⟨β,H,rm hd hn hW.eW rfl (by simp),hW0⟩) ?_;rintro e a w' ⟨st,hq,β',H',hF,hW'⟩;have hkeep:∀i d,i∉pk→β i=some d→β' i=some d:=fun i d hi hd=>hW'.fU i d (hfx i d hi hd) hd;have hWC:cv C β' H' st.M w':=⟨hW'.os.trans hW.os,hW'.tape.trans hW.tape,hW'.output.trans hW.output,Nat.le_trans hW.size hW'.size,
  fun b hb hx=>by
   rw[hW'.frame b (Nat.lt_of_lt_of_le hb hW.size) (fun hbX=>by rcases hown b hbX with h' | h';omega;exact hx h')];exact hW.frame b hb hx,
  fun b cs hb=>hW'.ext b cs (hW.ext b cs hb),
  fun b cs hb=>by
   rcases hW'.new b cs hb with h' | h' | h'
   ·exact hW.new b cs h'
   ·exact .inr (.inl (Nat.le_trans hW.size h'))
   ·exact .inr (hown b h'),
  hW'.inv,hW'.da,
  fun i e d hi hd=>⟨(hW'.own i e d hi hd).1,by
   rcases(hW'.own i e d hi hd).2 with h' | h'
   ·exact .inl (Nat.le_trans hW.size h')
   ·exact hown _ h'⟩,
  hW'.inj,hW'.fresh,fun i d hi hd=>hkeep i d (fun hp=>hpk i hp hi) (hW.fU i d hi hd),hW'.eW⟩
 have key:(match jS P st fn.results.toList with | some (c,x)=>c∧k st.M pk x | none=>False) →
   a.defers=[]∧∃v,(results fn a.tmps).run P w'=.ok v w'∧∃β' H' M' v' x pk,Ending.returned v=.returned v'∧Den β' H' x v'∧cv C β' H' M' w'∧(∀k d,k∉pk→β k=some d→β' k=some d)∧(∀b cs,H b=some cs→H' b=some cs)∧k M' pk x ∧
    w.heap.size≤w'.heap.size∧∀ks,W=some ks→pk=[]∧∀b,b<w.heap.size→(∀k∈ks,∀d,β k=some (some d)→b≠d.b)→w'.heap[b]?=w.heap[b]?:=by
  intro hq;refine⟨hF.1.1,?_⟩;split at hq
  ·rename_i c' x hr;obtain⟨v,hv1,hv2⟩:=u5 hF hW' hr hq.1;refine⟨v,hv1,β',H',st.M,v,x,pk,rfl,hv2,hWC,hkeep,hW'.ext,hq.2,hW'.size,fun ks hks=>?_⟩;obtain⟨g1,g2⟩:=hWk ks hks;refine⟨g1,fun b hb hn=>hW'.frame b hb fun hbX=>?_⟩;obtain⟨i,e,d,h1,h2,rfl⟩:=(hX b).1 hbX;exact hn i (g2 i e h1) d h2 rfl
  ·exact hq.elim
 cases e<;>simp only[l8]at hq<;>simp only[bodyPost]
 case normal=>exact key hq
 case ret=>exact key hq
theorem dK{f:FuncId}{fn:Func}{c:Code}{args:List SV}{T:aJ}{pk:List Nat}{Φ:aJ→SV→Prop}(hf:P.funcs[f]?=some fn)(hb:fn.body=some c)(hn:args.length≤fn.ntmps)
  (h:∀C':Ctx,C'.fx=(amP T.length).filter (fun i=>!pk.contains i)→ae P C' c ⟨fn.ntmps,kO 0 args,T⟩ (l8 P fn.results.toList pk (Lv T pk Φ))):mw P f args T pk Φ:=by
 intro C hC;exact CF hf hb hn pk (fun i _ hi=>by rw[hC]at hi;cases hi) (fun ks h=>by cases h) h
end
end Go.Sv
namespace Go.Sv
open Go Go.RowKit
section
variable {P:Program} {C:Ctx} {ops:Array Oper} {R:aV} {st:St}
end
section
variable {P:Program} {C:Ctx} {β:bO} {H:Hp} {M:aJ} {w:World}
end
section
variable {P:Program} {C:Ctx} {st:St}
end
end Go.Sv
namespace Go.Sv
open Go
theorem Le.perm{C:Ctx}(hC:C.fx=[])(σ:Nat→Nat){st st':St}(hn:st.n=st'.n)(hi:∀k k',k<st'.M.length→k'<st'.M.length→σ k=σ k'→k=k')(hl:∀k,st'.M.length≤k→st.M.length≤σ k)
  (hM:∀(k:Nat) (e:cx),st'.M[k]?=some (some e)→st.M[σ k]?=some (some (jj σ e))) (hf:∀t x,get st'.fr t=some x→get st.fr t=some (gJ σ x)):Le C st st':=by
 rintro a w ⟨β,H,hF,hW⟩;have lt:∀(k:Nat) (e:cx),st'.M[k]?=some (some e)→k<st'.M.length:=fun k e h=>(amH.1 h).1;refine⟨fun k=>β (σ k),H,⟨⟨hF.1.1,hF.1.2⟩,by rw[←hn];exact hF.2.1,fun t x hg=>?_⟩,?_⟩
 ·obtain⟨v,h1,h2⟩:=hF.2.2 t _ (hf t x hg);exact⟨v,h1,kR.1 h2⟩
 ·refine⟨hW.os,hW.tape,hW.output,hW.size,hW.frame,hW.ext,hW.new,hW.inv,fun k e hk=>nY.gJ.1 (hW.da _ _ (hM k e hk)),fun k e d hk hd=>hW.own (σ k) (jj σ e) d (hM k e hk) hd,
   fun k k' e e' d d' hk hk' hd hd' he=>hi k k' (lt k e hk) (lt k' e' hk') (hW.inj _ _ _ _ _ _ (hM k e hk) (hM k' e' hk') hd hd' he),fun k hk=>hW.fresh _ (hl k hk),fun k d hk=>absurd hk (by rw[hC];simp),hW.eW⟩
def alc(C:Ctx)(st1:St):aV:=fun e s=>match e with
 | .normal=>Le C s st1
 | _=>False
/-! plans whose equal parts are told once -/
section
variable {P:Program} {C:Ctx} {ops:Array Oper} {st:St} {R:aV}
def xp(l:List Nat)(k:Nat):Nat:=if k<l.length then l.getD k 0 else k
end
end Go.Sv
namespace Go.Sv
open Go
section
variable {P:Program} {C:Ctx} {ops:Array Oper} {R:aV} {st:St}
def Pl.app(i:Nat):Pl→Pl
 | .nil=>.l i [o8] .nil
 | .stop=>.stop
 | .q j ks r=>.q j ks (r.app i)
 | .l j ks r=>.l j ks (r.app i)
 | .alt j ks r p=>.alt j ks (r.app i) (p.app i)
 | .m _ _ _ _ _ _=>.stop
def O6(P:Program)(C:Ctx)(f:FuncId)(d:Option Nat)(R:aV)(st:St):Option (List SV)→Prop
 | some xs=>al P f∧sS d st.n∧dH P C f xs st.M none fun M' pk x=>R .normal ⟨st.n,dd d (some x) (forget pk st.fr),M'⟩
 | none=>False
@[simp] theorem QI{f:FuncId}{d:Option Nat}{xs:List SV}:O6 P C f d R st (some xs)=(al P f∧sS d st.n∧dH P C f xs st.M none fun M' pk x=>R .normal ⟨st.n,dd d (some x) (forget pk st.fr),M'⟩):=rfl
def adw(P:Program)(C:Ctx)(f:FuncId)(l:List Operand)(d:Option Nat)(R:aV):aV:=fun e st=>match e with
 | .normal=>O6 P C f d R st (rQ st.fr l)
 | _=>False
@[simp] theorem aey{f:FuncId}{l:List Operand}{d:Option Nat}:adw P C f l d R .normal st=O6 P C f d R st (rQ st.fr l):=rfl
end
end Go.Sv

