/- A text of the prover's own. -/
import Derived.Test.YtnimjdcaajmfcaaGreatDoorBDu
open List renaming range->ati,mem_range->avp,all_eq_true->atu,map_set->aue,cons_append->as8,nil_append->at3
open Nat renaming le_refl->asN,le_trans->atj,mul_le_mul_right->asK
open Bool renaming and_eq_true->atl,or_eq_true->atv
open Rat renaming zero_mul->avq,div_def->au6,mul_zero->avr
namespace Go.Sv
open Go Go.RowKit
section
variable {P:Program} {C:Ctx} {β:ca} {H:Hp} {M:aD} {w:World}
end
section
variable {P:Program} {C:Ctx} {all:Array Oper} {rest:List Oper} {st:St} {R:bf}
end
/-! code in pieces -/
section
variable {P:Program} {C:Ctx} {st:St} {Q:bf}
theorem aa.Cb{x y:Code}(h:aa P C x st (sY (λst'=>aa P C y st' Q) Q)):aa P C (.seq x y) st Q:=by intro a w hs;refine wp_seq (wp_mono (h a w hs) ?_);rintro e a' w' ⟨st',h2,h3⟩;cases e<;>simp only[sY,Exit.then]at h2 ⊢<;>first | exact h2 a' w' h3 | exact⟨st',h2,h3⟩
theorem aa.vK{c:Operand}{x y:Code}(b:Bool)(hb:ev st.fr c=some (.val (.bool b)))(h1:b=true->aa P C x st Q)(h2:b=false->aa P C y st Q):aa P C (.cond c x y) st Q:=by rintro a w ⟨β,H,hF,hW⟩;have ai:=BF hF hb;simp only[Den]at ai;exact wp_cond_split ai.1 (λht=>h1 ht a w ⟨β,H,hF,hW⟩) (λhf=>h2 hf a w ⟨β,H,hF,hW⟩)
theorem aa.mq{id:Nat}{ops:Array Oper}(h:tA P C ops ops.toList st Q):aa P C (.region id ops false) st Q:=λa w hs=>wp_region_list (h a w hs)
end
section
variable {P:Program} {C:Ctx} {M:aD}
theorem FG{f:FuncId}{fn:Func}{c:Code}{args:List SV}{W:Option (List Nat)}{k:aD->List Nat->SV->Prop}(hf:P.funcs[f]?=some fn)(hb:fn.body=some c)(hn:args.length<=fn.ntmps)(pk:List Nat)
  (aI:∀i∈pk,i∉C.fx) (aJ:∀ks,W=some ks->pk=[]∧∀i e,aA M i=some e->i∈ks)
  (h:∀C':Ctx,C'.fx=(ati M.length).filter (λi=>!pk.contains i)->aa P C' c ⟨fn.ntmps,mh 0 args,M⟩ (gK P fn.results.toList pk k)):dN P C f args M W k:=by
 intro β H w aM hd hW;refine calls_of_wp hf hb ?_
 let X:List Nat:=(ati M.length).filterMap λi=>match aA M i,β i with
  | some _,some (some d)=>some d.b
  | _,_=>none
 have hX:∀b,b∈X↔∃i e d,aA M i=some e∧β i=some (some d)∧d.b=b:=λb=>by
  simp only[X,List.mem_filterMap,avp];constructor
  ·rintro⟨i,hi,he⟩;split at he
   ·rename_i e d h1 h2;simp only[Option.some.injEq]at he;exact⟨i,e,d,h1,h2,he⟩
   ·cases he
  ·rintro⟨i,e,d,hi,hd,rfl⟩;refine⟨i,?_,by simp[hi,hd]⟩;have:=aT hi;exact(List.getElem?_eq_some_iff.1 this).1
 have ae:∀b,b∈X->C.w0.heap.size<=b∨b∈C.X:=λb hb=>by obtain⟨i,e,d,h1,h2,rfl⟩:=(hX b).1 hb;exact(hW.own i e d (aT h1) h2).2
 let C':Ctx:=⟨w,H,X,β,(ati M.length).filter (λi=>!pk.contains i)⟩
 have aN:∀i d,i∉pk->β i=some d->i∈C'.fx:=λi d hi hd=>by
  have:i<M.length:=by
   rcases Nat.lt_or_ge i M.length with h' | h'
   ·exact h'
   ·rw[hW.fresh i h']at hd;cases hd
  simp[C',this,hi]
 have aO:cJ C' β H M w:=⟨rfl,rfl,rfl,asN _,λ_ _ _=>rfl,λ_ _ h=>h,λ_ _ h=>.inl h,hW.inv,hW.dt,
  λi e d hi hd=>⟨(hW.own i e d hi hd).1,.inr ((hX _).2 ⟨i,e,d,wT hi,hd,rfl⟩)⟩,hW.inj,hW.fresh,λ_ _ _ h=>h,hW.fT⟩
 refine wp_mono (h C' rfl _ w ⟨β,H,w7 hd hn hW.fT rfl (by simp),aO⟩) ?_;rintro e a w' ⟨st,hq,β',H',hF,ab⟩;have ad:∀i d,i∉pk->β i=some d->β' i=some d:=λi d hi hd=>ab.im i d (aN i d hi hd) hd;have aS:cJ C β' H' st.M w':=⟨ab.os.trans hW.os,ab.tape.trans hW.tape,ab.output.trans hW.output,atj hW.size ab.size,
  λb hb hx=>by rw[ab.frame b (Nat.lt_of_lt_of_le hb hW.size) (λan=>by rcases ae b an with h' | h';omega;exact hx h')];exact hW.frame b hb hx,
  λb cs hb=>ab.ext b cs (hW.ext b cs hb),
  λb cs hb=>by
   rcases ab.new b cs hb with h' | h' | h'
   ·exact hW.new b cs h'
   ·exact .inr (.inl (atj hW.size h'))
   ·exact .inr (ae b h'),
  ab.inv,ab.dt,
  λi e d hi hd=>⟨(ab.own i e d hi hd).1,by
   rcases(ab.own i e d hi hd).2 with h' | h'
   ·exact .inl (atj hW.size h')
   ·exact ae _ h'⟩,
  ab.inj,ab.fresh,λi d hi hd=>ad i d (λhp=>aI i hp hi) (hW.im i d hi hd),ab.fT⟩
 have key:(match lG P st fn.results.toList with | some (c,x)=>c∧k st.M pk x | none=>False) ->
   a.defers=[]∧∃v,(results fn a.tmps).run P w'=.ok v w'∧∃β' H' M' v' x pk,Ending.returned v=.returned v'∧Den β' H' x v'∧cJ C β' H' M' w'∧(∀k d,k∉pk->β k=some d->β' k=some d)∧(∀b cs,H b=some cs->H' b=some cs)∧k M' pk x ∧
    w.heap.size<=w'.heap.size∧∀ks,W=some ks->pk=[]∧∀b,b<w.heap.size->(∀k∈ks,∀d,β k=some (some d)->b≠d.b)->w'.heap[b]?=w.heap[b]?:=by
  intro hq;refine⟨hF.1.1,?_⟩;split at hq
  ·rename_i c' x hr;obtain⟨v,ap,ar⟩:=CI hF ab hr hq.1;refine⟨v,ap,β',H',st.M,v,x,pk,rfl,ar,aS,ad,ab.ext,hq.2,ab.size,λks aj=>?_⟩;obtain⟨g1,g2⟩:=aJ ks aj;refine⟨g1,λb hb hn=>ab.frame b hb λan=>?_⟩;obtain⟨i,e,d,h1,h2,rfl⟩:=(hX b).1 an;exact hn i (g2 i e h1) d h2 rfl
  ·exact hq.elim
 cases e<;>simp only[gK]at hq<;>simp only[bodyPost]
 case normal=>exact key hq
 case ret=>exact key hq
theorem iQ{f:FuncId}{fn:Func}{c:Code}{args:List SV}{T:aD}{pk:List Nat}{Φ:aD->SV->Prop}(hf:P.funcs[f]?=some fn)(hb:fn.body=some c)(hn:args.length<=fn.ntmps)
  (h:∀C':Ctx,C'.fx=(ati T.length).filter (λi=>!pk.contains i)->aa P C' c ⟨fn.ntmps,mh 0 args,T⟩ (gK P fn.results.toList pk (rn T pk Φ))):kv P f args T pk Φ:=by
 intro C hC;exact FG hf hb hn pk (λi _ hi=>by rw[hC]at hi;cases hi) (λks h=>by cases h) h
end
end Go.Sv
namespace Go.Sv
open Go Go.RowKit
section
variable {P:Program} {C:Ctx} {ops:Array Oper} {R:bf} {st:St}
theorem bR.qI {i:Nat} {ks:List Nat} {r:Pl} (np:∀c st,¬R (.panic c) st) (h:match ops[i]? with
  | none=>False
  | some o=>gd ops o st (λst'=>G0 ks st' o.op∧cH P C none o st' (λac=>bR P C ops r ac R) (λ_=>False)) (λst'=>bR P C ops r st' R)):bR P C ops (.q i ks r) st R:=λak L hL β H a w hF hW=>by
 simp only[ax,atl]at hL;obtain⟨hq,hL⟩:=hL;split at h
 ·exact h.elim
 ·rename_i o ho;simp only[Uu,ho,atl]at hq;obtain⟨h1,h2,h3,h4,h5⟩:=hq;simp only[atu,atl,Bool.not_eq_true']at h4
  let D:Nat->Bool:=λj=>(Ow ops i).contains j
  let U:Nat->Prop:=λb=>∃j,j<ops.size∧j≠i∧D j=false∧L.getD j true=false∧Wb β w.heap.size (r.Y j) b
  have aV:(∃t x,o.op=.load t x)->∀b,U b->b<w.heap.size->sj∈ks∨∃k∈ks,∃d,β k=some (some d)∧d.b=b:=by
   rintro⟨t',x',aG⟩ b ⟨j,al,au,av,aw,a4,am⟩ hb;obtain⟨dst,op,type,pos,after,guard⟩:=o;simp only at aG;subst aG;simp only[atu,avp,atv,beq_iff_eq]at h5;have aj:∀k∈r.Y j,k∈ks:=λk hk=>by
    rcases h5 j al with h | h | h | h
    ·exact absurd h au
    ·rw[aw]at h;cases h
    ·rw[show(Ow ops i).contains j=false from av]at h;cases h
    ·have:=h k hk;simpa using this
   rcases am with am | am | ⟨k,hk,d,hd,aW⟩
   ·exact .inl (aj _ am)
   ·omega
   ·exact .inr ⟨k,aj k hk,d,hd,aW⟩
  have core:∀v,YieldsIf P ops (λw'=>RS U w w'∧sG H w') o v a->(∃fr,iM β H st.n fr (a.put o.dst v)∧bR P C ops r ⟨st.n,fr,st.M⟩ R)->r8 P ops (QQ C R) (λj w1 w2=>GG H (Wb β w.heap.size ((Pl.q i ks r).Y j)) w1 w2) (Pl.q i ks r).len L a w:=by
   rintro v hy ⟨fr,af,hv⟩;refine uU (D:=D) (S:=λw'=>RS U w w'∧sG H w') ho (Region.noSelect_spec ak) (λc a' w' ⟨st',hp,_⟩=>absurd hp (np c st')) (λj oj hj aY=>?_) (λw1 hs=>⟨RS.Ca w1,hs.2⟩) _ L a w ?_ (λj hj=>?_) (Region.free_spec ho h2) (by simpa using h3) hy ⟨RS.Ca w,hW.inv⟩ ?_
   ·have:=h4 j (by simpa[D]using hj);rw[aY]at this;simp only[Array.any_eq_true',atl,atv,beq_iff_eq]at this;exact this.2
   ·intro j w1 w2 al au av aw hs hg;exact⟨hs.1.trans hg.1 λb _ hb=>⟨j,al,au,av,aw,hb⟩,hg.2⟩
   ·exact(h4 j (by simpa[D]using hj)).1
   ·exact hv ak _ hL β H _ w af hW
  rcases LJ h hF with⟨hw,fr,af,hi,az⟩ | ⟨hw,fr,af,aC⟩
  ·obtain⟨c,x,hx,hc,hd,aZ⟩:=rV h1 hi az;obtain⟨v,ap,ar⟩:=Gx (st:=⟨st.n,fr,st.M⟩) hW af hx hc hi aV;exact core v (.inl ⟨hw,ap⟩) ⟨_,af.eI hd ar,aZ⟩
  ·exact core undef (.inr ⟨hw,rfl⟩) ⟨fr,af,aC⟩
theorem bR.lI {i:Nat} {ks:List Nat} {r:Pl} (h:match ops[i]? with
  | none=>False
  | some o=>gd ops o st (λst'=>((okW ks st' o.op∧xH ks r o.op)∧r.there st'.M)∧cH P C (some (nb ks)) o st' (λac=>bR P C ops r ac R) (λac=>bR P C ops r ac R)) (λst'=>bR P C ops r st' R)):bR P C ops (.l i ks r) st R:=λak L hL β H a w hF hW=>by
 simp only[ax,atl,beq_iff_eq]at hL;split at h
 ·exact h.elim
 ·rename_i o ho;exact I2 hL.1 (jG ho ak hL.2 (λ_ h=>h) (λ_ h=>h) (λ_ h=>h) h hF hW (λk hk=>by simp[Pl.Y,one,hk]) (λj k hk=>by simp[Pl.Y,hk]) (asN _))
theorem aa.Zx{id:Nat}(pl:Pl)(hm:P.follows .mixedOrders=true)(hp:(Region.noSelect ops&&(ax ops (Array.replicate ops.size false) pl&&decide (pl.len<=ops.size)))=true)
  (h:bR P C ops pl st R):aa P C (.region id ops true) st R:=by
 simp only[atl,decide_eq_true_eq]at hp;rintro a w ⟨β,H,hF,hW⟩;exact wp_region_any hm (xe _ _ _ _ (Cg hp.2.2 (h hp.1 _ hp.2.1 β H a _ hF hW.drew)))
end
section
variable {P:Program} {C:Ctx} {β:ca} {H:Hp} {M:aD} {w:World}
end
section
variable {P:Program} {C:Ctx} {st:St}
end
end Go.Sv
set_option maxRecDepth 10000
namespace Go.Sx
open Go Go.Sv Go.Pl Go.Proofs Go.Tb Go.Ut Go.Mx Go.Li Go.Dt
structure Tc where
 p:aB
 n:Nat
 m:Nat
 N:Nat
 low:List Bo
 high:List Bo
 cost:List Rat
structure Tb where
 wh:List Int
 x:List Rat
 basic:List Nat
 row:List Int
 R:List (List Rat)
def tS(c:Tc):SV:=.agg [.dc (bN c.p) 0,iv c.n,iv c.m,.ro (c.low.map dh),.ro (c.high.map dh),.ro (c.cost.map aU),.view 1 0 c.N,.view 2 0 c.N,.view 3 0 c.m,.view 4 0 c.N,.view 5 0 c.m]
def Ru(N i:Nat):SV:=.view (i+6) 0 N
def AB(N m:Nat):List SV:=(ati m).map (Ru N)
def tH(c:Tc)(s:Tb):aD:=[some ⟨11,[tS c],false⟩,some ⟨1,s.wh.map iv,false⟩,some ⟨4,s.x.map aU,false⟩,some ⟨1,s.basic.map rp,false⟩,some ⟨1,s.row.map iv,false⟩,some ⟨1,AB c.N c.m,false⟩]
def tT(c:Tc)(s:Tb)(tl:aD):aD:=tH c s++(ey s.R++tl)
structure oR(c:Tc):Prop where
 m7:c.m<=7
 sq:c.N<=14
 lo:c.low.length=c.N
 hi:c.high.length=c.N
 co:c.cost.length=c.N
structure ui(c:Tc)(s:Tb):Prop where
 w:s.wh.length=c.N
 x:s.x.length=c.N
 b:s.basic.length=c.m
 r:s.row.length=c.N
 R:s.R.length=c.m
 Rr:∀i,i<c.m->(gt s.R i).length=c.N
 bb:∀i,i<c.m->gt s.basic i<c.N
@[simp] theorem afN(N m:Nat):(AB N m).length=m:=by simp[AB]
theorem gj{N m i:Nat}(h:i<m):aL (AB N m) i=.view (i+6) 0 N:=by unfold AB;rw[cy _ (by simpa using h)];simp[Ru,gt,h]
def uu(s:Tb)(N:Nat):Nat->List Rat
 | 0=>s.x
 | i+1=>(uu s N i).set (gt s.basic i) (aH (λj=>gt (gt s.R i) j*gt (uu s N i) j) N)
@[simp] theorem pZ(s:Tb)(N:Nat):∀i,(uu s N i).length=s.x.length
 | 0=>rfl
 | i+1=>by simp only[uu,List.length_set];exact pZ s N i
theorem jo{c:Tc}{s:Tb}{tl:aD}(h:s.R.length=c.m):(tT c s tl).length=c.m+6+tl.length:=by simp[tT,tH,h];omega
theorem oJ{C:Ctx}{c:Tc}{s:Tb}{pk:List Nat}(h:s.R.length=c.m)(hC:C.fx=(ati (tT c s []).length).filter (λi=>!pk.contains i)):∀k∈C.fx,k<c.m+6:=λk hk=>by rw[hC,List.mem_filter,avp,jo h]at hk;simpa using hk.1
theorem qL{N m k:Nat}(h:m+6<=k):SV.kZ k (AB N m)=true:=by
 unfold AB;rw[qA,atu];intro i hi;have hi:i<m:=by simpa using hi
 simp[Ru];omega
theorem eP{C:Ctx}{N0:Nat}{c:Tc}(s:Tb){fr fr':List (Nat × SV)}{tl tl':aD}(h:s.R.length=c.m)(hx:∀k∈C.fx,k<c.m+6)(hf:bU fr fr')(ht:fI tl tl')(h2:gz (c.m+6+tl'.length) fr')(h3:ee (c.m+6+tl'.length) tl') :
  Le C ⟨N0,fr,tT c s tl⟩ ⟨N0,fr',tT c s tl'⟩:=by
 refine Le.fm ⟨rfl,hf,?_,.inr ⟨?_,?_,?_⟩⟩
 ·exact kY (tH c s) (kY _ ht)
 ·rw[jo h];exact h2
 ·rw[jo h];refine mB ?_ (mB (nO _ _) h3);have:=qL (N:=c.N) (m:=c.m) (k:=c.m+6+tl'.length) (by omega);simp[tH,tS,ee,this];omega
 ·rw[jo h];intro k hk;have:=hx k hk;omega
theorem CB{f:Nat->Rat}{V:Nat}:∀k,(∀i,i<k->Proofs.qw V (f i))->Proofs.qw (1+k*(V+1)) (aH f k)
 | 0,_=>⟨jK _,k7 (by omega)⟩
 | k+1,h=>by have h1:=CB k λi hi=>h i (by omega);refine ay (kg h1 (h k (by omega))) ?_;rw[Nat.add_mul];omega
theorem dv{α:Type}(f:α->SV)(hf:∀a,iq (f a)=f a):∀l:List α,lW (l.map f)=l.map f
 | []=>rfl
 | a::l=>by simp only[List.map_cons,lW,hf a,dv f hf l]
theorem dA{l:List Int}{i:Nat}{x:Int}:cZ (l.map iv) i (.val (.int .i64 x))=(l.set i x).map iv:=by rw[ec,aue];rfl
@[simp] theorem ZH(q:Rat):iq (aU q)=aU q:=rfl
theorem pA:∀{l:List SV} {j:Nat} {x:SV},lW (cZ l j x)=cZ (lW l) j (iq x)
 | [],_,_=>rfl
 | _::_,0,_=>by simp[cZ,lW]
 | _::l,j+1,x=>by simp only[cZ,lW];rw[pA]
theorem LX{M:aD}{k:Nat}{e:cz}:rv (aX M k (some e))=aX (rv M) k (some ⟨e.sz,lW e.es,e.fz⟩):=by unfold rv;rw[dI,aue,dI];rfl
theorem GC(c:Tc)(s:Tb)(tl:aD):rv (tT c s tl)=tT c s (rv tl):=by unfold tT;rw[kA,kA,tQ];congr 1;unfold tH tS AB;simp only[jd,mc,lW,IS];rw[dv iv (λ_=>rfl),dv aU (λ_=>rfl),dv rp (λ_=>rfl),dv iv (λ_=>rfl),dv (Ru c.N) (λ_=>rfl)];simp
theorem On{s:Tb}{c:Tc}{l:List Rat}{i j:Nat}{tl:aD}(hi:i<s.R.length):rv (tH c s++aX (ey s.R++tl) i (some ⟨4,cZ (l.map aU) j (.agg [.val (.bool false),.val (.slice none 0 0),.val (.bool false),.val (.slice none 0 0)]),false⟩))=tT c { s with R:=s.R.set i (l.set j 0) } (rv tl):=by
 have e1:rv (tH c s)=tH c s:=by
  have h0:rv (tH c { s with R:=[] })=tH c { s with R:=[] }:=by simpa[tT,ey]using GC c { s with R:=[] } []
  exact h0
 rw[kA,e1,LX,kA,tQ,pA,M4];have e2:iq (.agg [.val (.bool false),.val (.slice none 0 0),.val (.bool false),.val (.slice none 0 0)])=aU 0:=by rw[<-tI];rfl
 rw[e2,cg,wG hi];rfl
theorem xh:∀(A B:aD),fI (A++B) A
 | [],B=>by cases B<;>trivial
 | _::A,B=>⟨.inr rfl,xh A B⟩
theorem FC(c:Tc)(s:Tb)(tl:aD):fI (tT c s tl) (tH c s++ey s.R):=kY _ (xh _ _)
theorem Ct{c:Tc}{s:Tb}(h:s.R.length=c.m):ee (tH c s++ey s.R).length (tH c s++ey s.R):=by
 have e:(tH c s++ey s.R).length=c.m+6:=by simp[tH,h]
 rw[e];refine mB ?_ (nO _ _);have:=qL (N:=c.N) (m:=c.m) (k:=c.m+6) (by omega);simp[tH,tS,ee,this]
theorem fE{C:Ctx}{N0:Nat}{c:Tc}(s:Tb){fr fr':List (Nat × SV)}{tl:aD}(h:s.R.length=c.m)(hx:∀k∈C.fx,k<c.m+6)(hf:bU fr fr')(h2:gz (c.m+6) fr') :
  Le C ⟨N0,fr,tT c s tl⟩ ⟨N0,fr',tH c s++ey s.R⟩:=by
 have:=eP (C:=C) (N0:=N0) (c:=c) (tl:=tl) (tl':=[]) s h hx hf (by simp[fI]) h2 (by simp[ee]);unfold tT at this ⊢;simpa using this
theorem Lf{C:Ctx}{N0:Nat}{c:Tc}(s:Tb){l:List Rat}{i j:Nat}{fr fr':List (Nat × SV)}{tl tl':aD}(h:s.R.length=c.m)(hi:i<c.m)(hx:∀k∈C.fx,k<c.m+6)(hf:bU (zI fr) fr')(ht:fI (rv tl) tl')(h2:gz (c.m+6+tl'.length) fr')(h3:ee (c.m+6+tl'.length) tl') :
  Le C ⟨N0,fr,tH c s++aX (ey s.R++tl) i (some ⟨4,cZ (l.map aU) j (.agg [.val (.bool false),.val (.slice none 0 0),.val (.bool false),.val (.slice none 0 0)]),false⟩)⟩ ⟨N0,fr',tT c { s with R:=s.R.set i (l.set j 0) } tl'⟩:=by
 refine(Le.nl _).trans ?_;unfold NU;rw[On (by omega)];exact eP { s with R:=s.R.set i (l.set j 0) } (by simpa using h) hx hf ht h2 h3
theorem rW{C:Ctx}{N0:Nat}{c:Tc}(s:Tb){fr fr':List (Nat × SV)}{tl tl':aD}(h:s.R.length=c.m)(hx:∀k∈C.fx,k<c.m+6)(hf:bU (zI fr) fr')(ht:fI (rv tl) tl')(h2:gz (c.m+6+tl'.length) fr')(h3:ee (c.m+6+tl'.length) tl') :
  Le C ⟨N0,fr,tT c s tl⟩ ⟨N0,fr',tT c s tl'⟩:=by
 refine(Le.nl _).trans ?_;unfold NU;rw[GC];exact eP s h hx hf ht h2 h3
end Go.Sx
namespace Go.Proofs
open Go.Sv Go Go.Tb Go.Pl Go.Ut Go.Mx Go.Li Go.Dt Go.Sx
theorem FF(c:Tc)(s:Tb)(hc:oR c)(h:ui c s){W V:Nat}(h1:1<=W)(hW:∀i j,i<c.m->j<c.N->qw W (gt (gt s.R i) j))(hV:∀i k,i<c.m->k<c.N->gt (gt s.R i) k≠0->qw V (gt (uu s c.N i) k))(hz:1+c.N*(W+V+1)<=10000000000) :
  kv Tryz.prog 120 [.ptr 0 0 0] (tT c s []) [] (λT x=>T=tT c { s with x:=uu s c.N c.m } []∧x=.bP []):=by
 have h7:=hc.m7;have a5:=hc.sq;have hR:=h.R;have hx:=h.x;have hb:=h.b;refine gu Tryz.func120 rfl (by simp) (λC hC=>?_);have fx:=oJ hR hC;simp[tT,tH,tS];refine aa.bM (ι:=Nat) (λi=>⟨53,[(0,.ptr 0 0 0),(10,.view 5 0 c.m),(11,iv c.m),(12,iv i)],tT c { s with x:=uu s c.N i } []⟩)
  (λi=>i<=c.m) (λi=>c.m - i) 0 (by simp) ?_ ?_
 ·simp[aR,tT,tH,tS,uu]
 ·rintro i hi;by_cases aP:i<c.m
  ·have lb:=gj (N:=c.N) aP;simp only[tT,tH,tS,as8,at3];simp(disch:=omega)[aP,lb,hR];repeat refine asi ?_
   refine aa.le (rW (tl:=[some ⟨4,[.agg [.val (.bool false),.val (.slice none 0 0),.val (.bool false),.val (.slice none 0 0)]],false⟩]) (fr':=[(0,.ptr 0 0 0),(10,.view 5 0 c.m),(11,iv c.m),(12,iv i),(2,iv i),(4,.ptr (c.m+6) 0 0),(17,.view (i+6) 0 c.N),(18,iv c.N),(19,iv (0:Nat))]) (tl':=[some ⟨4,[aU 0],false⟩]) { s with x:=uu s c.N i } hR fx ?_ (by simp[tI]) (by simp[gz];omega) (by simp[ee])) ?_
   ·simp[bU,Go.Sv.get]
   refine aa.bM (ι:=Nat) (λj=>⟨53,[(0,.ptr 0 0 0),(10,.view 5 0 c.m),(11,iv c.m),(12,iv i),(2,iv i),(4,.ptr (c.m+6) 0 0),(17,.view (i+6) 0 c.N),(18,iv c.N),(19,iv j)],tT c { s with x:=uu s c.N i } [some ⟨4,[aU (aH (λj=>gt (gt s.R i) j*gt (uu s c.N i) j) j)],false⟩]⟩)
    (λj=>j<=c.N) (λj=>c.N - j) 0 (by simp) ?_ ?_
   ·simp[aR,tT,tH,tS,aH,aq]
   ·rintro j hj;have tg:=λtl:aD=>e9 (C:=s.R) (tl:=tl) (e:=i) (by omega);have lr:=bS (l:=gt s.R i) (i:=j);simp only[tT,tH,tS,as8,at3];by_cases ag:j<c.N
    ·have Rr:=h.Rr i aP;have lr:=bS (l:=gt s.R i) (i:=j) (by omega);have lx:=bS (l:=uu s c.N i) (i:=j) (by simp;omega);have xl:(uu s c.N i).length=c.N:=by rw[pZ,hx]
     have q1:=hW i j aP ag;have qs:=CB (f:=λj=>gt (gt s.R i) j*gt (uu s c.N i) j) (V:=W+V) j (λk hk=>by
      by_cases z:gt (gt s.R i) k=0
      ·rw[z,avq];exact ay (mE (k:=1) (x:=0) (jK _) (by omega)) (by omega)
      ·exact cx (hW i k aP (by omega)) (hV i k aP (by omega) z) (by omega))
     have a6:1*(W+V+1)<=c.N*(W+V+1):=asK _ (by omega);have al:j*(W+V+1)<=c.N*(W+V+1):=asK _ hj;simp(disch:=omega)[ag,tg,Rr,lr,hR,vV,zF];repeat refine asi ?_
     refine asl (gM (gt (gt s.R i) j)) ?_;simp(disch:=omega)[aK,Int.sign_eq_zero_iff_zero,Rat.num_eq_zero];repeat refine asi ?_
     refine⟨λz=>?_,λz=>?_⟩
     ·have q2:=hV i j aP ag z;refine aa.asj (.qs [0,1,2,3,4,5,6,7,8]<|.l 9 []<|.l 10 []<|.l 11 [c.m+6]<|.nil) ?_;simp(disch:=omega)[ag,cE,vV,lx,xl];repeat refine asi ?_
      refine asl (nV _ _ (ao q1 (by omega)) (ao q2 (by omega))) ?_;simp(disch:=omega)[cE];repeat refine asi ?_
      refine asl (nW _ _ (ao qs (by omega)) (ao (cx q1 q2 (by omega)) (by omega))) ?_;simp(disch:=omega)[cE,cP,aK];repeat refine asi ?_
      refine⟨j+1,by omega,by omega,?_⟩;exact eP { s with x:=uu s c.N i } hR fx (by simp(disch:=omega)[bU,Go.Sv.get]) (by simp[fI,aH]) (by simp[gz];omega) (by simp[ee])
     ·refine⟨j+1,by omega,by omega,?_⟩;exact eP { s with x:=uu s c.N i } hR fx (by simp(disch:=omega)[bU,Go.Sv.get]) (by simp[fI,aH,z,avq,Rat.add_zero]) (by simp[gz];omega) (by simp[ee])
    ·obtain rfl:j=c.N:=by omega
     have a0:=iF (l:=s.basic) (i:=i) (by omega);have a7:=h.bb i aP;have xl:(uu s c.N i).length=c.N:=by rw[pZ,hx]
     have a1:=bS (l:=uu s c.N i) (i:=gt s.basic i) (by omega);simp(disch:=omega)[];repeat refine asi ?_
     refine aa.asj (.qs [0,1,2,3,4,5,6,7,8,9,10,11,12]<|.l 13 [2]<|.nil) ?_;simp(disch:=omega)[cE,a0,xl,hb,a1,cg, -aue];repeat refine asi ?_
     refine⟨i+1,by omega,by omega,?_⟩;exact fE { s with x:=uu s c.N (i+1) } hR fx (by simp(disch:=omega)[bU,Go.Sv.get,aK]) (by simp[gz])
  ·obtain rfl:i=c.m:=by omega
   simp;exact⟨_,_,⟨rfl,rfl⟩,rfl,(by rw[tT,List.append_nil];exact aq _),by simp,.inl (by simp[tT,tH])⟩
end Go.Proofs
namespace Go.Sx
open Go Go.Sv Go.Pl Go.Proofs Go.Tb Go.Ut Go.Mx Go.Li Go.Dt
def UH(w:Nat)(m:List (List Rat))(z:Nat->Rat):Prop:=∀i,i<m.length->aH (λk=>gt (gt m i) k*z k) w=0
structure Sh(n w:Nat)(m:List (List Rat)):Prop where
 l:m.length=n
 r:∀i,i<n->(gt m i).length=w
theorem xM{n w:Nat}{m:List (List Rat)}(h:Sh n w m){k t i:Nat}(hk:k<n)(ht:t<n)(hi:i<n):(Gc m k t i).length=w:=by
 unfold Gc;split
 ·exact h.r t ht
 ·split
  ·exact h.r k hk
  ·exact h.r i hi
theorem Sh.step{n w:Nat}{m:List (List Rat)}(h:Sh n w m){k t c:Nat}(hk:k<n)(ht:t<n):Sh n w (jM m k t c) where
 l:=by rw[j4,h.l]
 r i hi:=by
  rw[iN (by rw[h.l];exact hi)];split
  ·simp[h.r t ht]
  ·rw[Dc];exact xM h hk ht hi
theorem wY{h:List Rat}{w c:Nat}(hl:h.length=w)(z:Nat->Rat):aH (λk=>gt (vk h c) k*z k) w=aH (λk=>gt h k*z k) w*(1 / gt h c):=by rw[<-uX];refine aQ w λk hk=>?_;rw[BL (by omega),au6,au6];grind
theorem HJ{a b:List Rat}{y:Rat}{w:Nat}(hl:a.length=w)(z:Nat->Rat):aH (λk=>gt (D8 a b y) k*z k) w=aH (λk=>gt a k*z k) w - y*aH (λk=>gt b k*z k) w:=by rw[<-jm,<-jY];refine aQ w λk hk=>?_;rw[xd (by omega)];grind
theorem MM{n w:Nat}{m:List (List Rat)}(h:Sh n w m){k t c:Nat}(hk:k<n)(ht:t<n)(hp:gt (gt m t) c≠0)(z:Nat->Rat):UH w (jM m k t c) z↔UH w m z:=by
 have hl:=h.l;have inv:1 / gt (gt m t) c≠0:=λe=>by have:1 / gt (gt m t) c*gt (gt m t) c=1:=Rat.div_mul_cancel hp;rw[e]at this;grind
 constructor
 ·intro hz;have z0:=hz k (by rw[j4];omega);rw[iN (by omega),if_pos rfl,wY (h.r t ht)]at z0;have zt:aH (λq=>gt (gt m t) q*z q) w=0:=by
   rcases Rat.mul_eq_zero.1 z0 with q | q
   ·exact q
   ·exact absurd q inv
  have zi:∀i,i<n->i≠k->aH (λq=>gt (Gc m k t i) q*z q) w=0:=λi hi a2=>by have z1:=hz i (by rw[j4];omega);rw[iN (by omega),if_neg a2,HJ (xM h hk ht hi),wY (h.r t ht),zt]at z1;rw[avq,avr]at z1;grind
  intro r hr;by_cases e1:r=t
  ·rw[e1];exact zt
  ·by_cases e2:r=k
   ·have:=zi t ht (λe=>e1 (by rw[e2,e]));unfold Gc at this;rw[if_neg (λe=>e1 (by rw[e2,e])),if_pos rfl]at this;rw[e2];exact this
   ·have:=zi r (by omega) e2;unfold Gc at this;rw[if_neg e2,if_neg e1]at this;exact this
 ·intro hz r hr;rw[j4]at hr;have zt:=hz t (by omega);rw[iN hr];by_cases e:r=k
  ·rw[if_pos e,wY (h.r t ht),zt,avq]
  ·rw[if_neg e,HJ (xM h hk ht (by omega)),wY (h.r t ht),zt];have:aH (λq=>gt (Gc m k t r) q*z q) w=0:=by
    unfold Gc;rw[if_neg e];split
    ·exact hz k (by omega)
    ·exact hz r hr
   rw[this];grind
structure OZ(n w:Nat)(a:List (List Rat))(s:List (List Rat) × List Nat)(c:Nat):Prop where
 sh:Sh n w s.1
 f:s.2=ati c
 u:∀q,q<c->∀i,i<n->gt (gt s.1 i) q=if i=q then 1 else 0
 k:∀z,UH w s.1 z↔UH w a z
def ET(w:Nat)(a:List (List Rat))(f:List Nat)(b:Nat):Prop:=(∃l,f=ati b++l∧∀x,x∈l->b<x)∧∃z,UH w a z∧z b=1∧∀k,b<k->z k=0
theorem ET.next{w c b:Nat}{a:List (List Rat)}{s:List (List Rat) × List Nat}(h:ET w a s.2 b)(hb:b<c):ET w a (oS s c).2 b:=by
 obtain⟨⟨l,hl,hx⟩,hz⟩:=h;refine⟨?_,hz⟩;by_cases h1:s.2.length<s.1.length
 ·by_cases h2:∃t,tV s.1 c s.2.length t
  ·obtain⟨t,ht⟩:=h2;rw[y9 h1 ht];refine⟨l++[c],by simp[hl],λx a3=>?_⟩;rcases List.mem_append.1 a3 with q | q
   ·exact hx x q
   ·rw[List.mem_singleton.1 q];exact hb
  ·have:oS s c=s:=by unfold oS;rw[dif_neg h2];split<;>rfl
   rw[this];exact⟨l,hl,hx⟩
 ·rw[vg h1];exact⟨l,hl,hx⟩
theorem NB{m:List (List Rat)}{c k:Nat}(h:¬∃t,tV m c k t):aaU m c k:=by
 have:∀d i,i=k+d->i<m.length->gt (gt m i) c=0:=λd=>by
  induction d using Nat.strongRecOn with
  | ind d ih =>
   intro i hi hl;apply Classical.byContradiction;intro hn;exact h ⟨i,by omega,hl,hn,λj h1 h2=>ih (j - k) (by omega) j (by omega) (by omega)⟩
 exact λi h1 h2=>this (i - k) i (by omega) h2
theorem HR{a:List (List Rat)}{n w:Nat}(h:Sh n w a)(hw:n<=w):∀c,c<=n->OZ n w a (cA a c) c∨∃b,b<c∧ET w a (cA a c).2 b
 | 0,_=>.inl ⟨h,rfl,λq hq=>by omega,λz=>Iff.rfl⟩
 | c+1,hc=>by
  rcases HR h hw c (by omega)with ih | ⟨b,hb,ih⟩
  ·have hl:=ih.sh.l;have h1:(cA a c).2.length=c:=by rw[ih.f];simp
   show OZ n w a (oS (cA a c) c) (c+1)∨∃b,b<c+1∧ET w a (oS (cA a c) c).2 b;by_cases h2:∃t,tV (cA a c).1 c (cA a c).2.length t
   ·obtain⟨t,ht⟩:=h2;left;rw[y9 (by omega) ht,h1];rw[h1]at ht;obtain⟨g1,g2,g3,g4⟩:=ht;have ah:t<n:=by omega
    refine⟨ih.sh.step (by omega) ah,by simp[ih.f,List.range_succ],λq hq i hi=>?_,λz=>(MM ih.sh (by omega) ah g3 z).trans (ih.k z)⟩;show gt (gt (jM _ _ _ _) i) q=_;rw[iN (by omega)];have o1:∀x,x<w->gt (vk (gt (cA a c).1 t) c) x=gt (gt (cA a c).1 t) x / gt (gt (cA a c).1 t) c:=λx hx=>BL (by rw[ih.sh.r t ah];exact hx);have pp:gt (gt (cA a c).1 t) c / gt (gt (cA a c).1 t) c=1:=by rw[au6];exact Rat.mul_inv_cancel _ g3
    by_cases eq:q=c
    ·subst eq;by_cases ei:i=q
     ·rw[if_pos ei,if_pos ei,o1 q (by omega),pp]
     ·rw[if_neg ei,if_neg ei,xd (by rw[xM ih.sh (by omega) ah hi];omega),o1 q (by omega),pp,Rat.one_mul,Rat.sub_self]
    ·have aE:q<c:=by omega
     have z1:gt (vk (gt (cA a c).1 t) c) q=0:=by rw[o1 q (by omega),ih.u q aE t ah,if_neg (by omega),au6,avq]
     by_cases ei:i=c
     ·rw[if_pos ei,z1,if_neg (by omega)]
     ·rw[if_neg ei,xd (by rw[xM ih.sh (by omega) ah hi];omega),z1,avq];have e0:∀x:Rat,x - 0=x:=λx=>by grind
      rw[e0];unfold Gc;rw[if_neg ei];by_cases et:i=t
      ·rw[if_pos et,ih.u q aE c (by omega),if_neg (by omega),if_neg (by omega)]
      ·rw[if_neg et,ih.u q aE i hi]
   ·right;refine⟨c,by omega,?_⟩;have e:oS (cA a c) c=cA a c:=by unfold oS;rw[dif_neg h2];split<;>rfl
    rw[e];have np:=NB h2;rw[h1]at np;refine⟨⟨[],by simp[ih.f],λx hx=>by simp at hx⟩,λk=>if k=c then 1 else if k<c then - gt (gt (cA a c).1 k) c else 0,(ih.k _).1 λi hi=>?_,if_pos rfl,λk hk=>?_⟩
    ·by_cases aF:i<c
     ·rw[Dv (p:=i) (q:=c) aF w (by omega) (λk hk h3 h4=>?_)]
      ·simp only[if_neg (show ¬i=c by omega),if_pos aF,if_true];rw[ih.u i aF i (by omega),if_pos rfl];grind
      ·simp only[if_neg h4];split
       ·rename_i h5;rw[ih.u k h5 i (by omega),if_neg (λe=>h3 e.symm),avq]
       ·rw[avr]
     ·refine gy w λk hk=>?_;by_cases e1:k=c
      ·rw[e1,np i (by omega) hi,avq]
      ·simp only[if_neg e1];split
       ·rename_i h5;rw[ih.u k h5 i (by omega),if_neg (by omega),avq]
       ·rw[avr]
    ·simp only[if_neg (show ¬k=c by omega),if_neg (show ¬k<c by omega)]
  ·exact .inr ⟨b,by omega,ih.next hb⟩
theorem O2{a:List (List Rat)}{n w:Nat}(h:Sh n w a)(hw:n<=w):OZ n w a (cA a w) n∨∃b,b<n∧ET w a (cA a w).2 b:=by
 rcases HR h hw n (asN _)with g | ⟨b,hb,g⟩
 ·left;have:cA a (n+(w - n))=cA a n:=yo (by rw[g.f,g.sh.l];simp) _;rw[show n+(w - n)=w by omega]at this;rw[this];exact g
 ·right;refine⟨b,hb,?_⟩;have:∀d,ET w a (cA a (n+d)).2 b:=λd=>by
   induction d with
   | zero=>exact g
   | succ d ih=>exact ih.next (s:=cA a (n+d)) (c:=n+d) (by omega)
  have q:=this (w - n);rw[show n+(w - n)=w by omega]at q;exact q
end Go.Sx

