/- A text of the prover's own. -/
import Derived.Test.YtnimjdcaajmfcaaGreatDoorVDu
open List renaming range->ayq,mem_range->aBF,all_eq_true->ayG,map_set->aAq,cons_append->ayb,nil_append->aAf
open Nat renaming le_refl->axq,le_trans->ayr,mul_le_mul_right->axn
open Bool renaming and_eq_true->ayt,or_eq_true->ayH
open Rat renaming zero_mul->aBG,div_def->aBi,mul_zero->aBH
namespace Go.Sv
open Go Go.RowKit
section
variable {P:Program} {C:Ctx} {β:cu} {H:Hp} {M:aC} {w:World}
end
section
variable {P:Program} {C:Ctx} {all:Array Oper} {rest:List Oper} {st:St} {R:bf}
end
/-! code in pieces -/
section
variable {P:Program} {C:Ctx} {st:St} {Q:bf}
theorem aa.El{x y:Code}(h:aa P C x st (uI (λst'=>aa P C y st' Q) Q)):aa P C (.seq x y) st Q:=by intro a w hs;refine wp_seq (wp_mono (h a w hs) ?_);rintro e a' w' ⟨st',h2,h3⟩;cases e<;>simp only[uI,Exit.then]at h2 ⊢<;>first | exact h2 a' w' h3 | exact⟨st',h2,h3⟩
theorem aa.x6{c:Operand}{x y:Code}(b:Bool)(hb:ev st.fr c=some (.val (.bool b)))(h1:b=true->aa P C x st Q)(h2:b=false->aa P C y st Q):aa P C (.cond c x y) st Q:=by rintro a w ⟨β,H,hF,hW⟩;have ai:=Eu hF hb;simp only[Den]at ai;exact wp_cond_split ai.1 (λht=>h1 ht a w ⟨β,H,hF,hW⟩) (λhf=>h2 hf a w ⟨β,H,hF,hW⟩)
theorem aa.mZ{id:Nat}{ops:Array Oper}(h:u6 P C ops ops.toList st Q):aa P C (.region id ops false) st Q:=λa w hs=>wp_region_list (h a w hs)
end
section
variable {P:Program} {C:Ctx} {M:aC}
theorem I2{f:FuncId}{fn:Func}{c:Code}{args:List SV}{W:Option (List Nat)}{k:aC->List Nat->SV->Prop}(hf:P.funcs[f]?=some fn)(hb:fn.body=some c)(hn:args.length<=fn.ntmps)(pk:List Nat)
  (aJ:∀i∈pk,i∉C.fx) (aK:∀ks,W=some ks->pk=[]∧∀i e,aA M i=some e->i∈ks)
  (h:∀C':Ctx,C'.fx=(ayq M.length).filter (λi=>!pk.contains i)->aa P C' c ⟨fn.ntmps,l6 0 args,M⟩ (im P fn.results.toList pk k)):dK P C f args M W k:=by
 intro β H w aL hd hW;refine calls_of_wp hf hb ?_
 let X:List Nat:=(ayq M.length).filterMap λi=>match aA M i,β i with
  | some _,some (some d)=>some d.b
  | _,_=>none
 have hX:∀b,b∈X↔∃i e d,aA M i=some e∧β i=some (some d)∧d.b=b:=λb=>by
  simp only[X,List.mem_filterMap,aBF];constructor
  ·rintro⟨i,hi,he⟩;split at he
   ·rename_i e d h1 h2;simp only[Option.some.injEq]at he;exact⟨i,e,d,h1,h2,he⟩
   ·cases he
  ·rintro⟨i,e,d,hi,hd,rfl⟩;refine⟨i,?_,by simp[hi,hd]⟩;have:=aU hi;exact(List.getElem?_eq_some_iff.1 this).1
 have ae:∀b,b∈X->C.w0.heap.size<=b∨b∈C.X:=λb hb=>by obtain⟨i,e,d,h1,h2,rfl⟩:=(hX b).1 hb;exact(hW.own i e d (aU h1) h2).2
 let C':Ctx:=⟨w,H,X,β,(ayq M.length).filter (λi=>!pk.contains i)⟩
 have aN:∀i d,i∉pk->β i=some d->i∈C'.fx:=λi d hi hd=>by
  have:i<M.length:=by
   rcases Nat.lt_or_ge i M.length with h' | h'
   ·exact h'
   ·rw[hW.fresh i h']at hd;cases hd
  simp[C',this,hi]
 have aQ:cM C' β H M w:=⟨rfl,rfl,rfl,axq _,λ_ _ _=>rfl,λ_ _ h=>h,λ_ _ h=>.inl h,hW.inv,hW.dF,
  λi e d hi hd=>⟨(hW.own i e d hi hd).1,.inr ((hX _).2 ⟨i,e,d,zx hi,hd,rfl⟩)⟩,hW.inj,hW.fresh,λ_ _ _ h=>h,hW.fM⟩
 refine wp_mono (h C' rfl _ w ⟨β,H,uK hd hn hW.fM rfl (by simp),aQ⟩) ?_;rintro e a w' ⟨st,hq,β',H',hF,ab⟩;have ad:∀i d,i∉pk->β i=some d->β' i=some d:=λi d hi hd=>ab.iK i d (aN i d hi hd) hd;have aT:cM C β' H' st.M w':=⟨ab.os.trans hW.os,ab.tape.trans hW.tape,ab.output.trans hW.output,ayr hW.size ab.size,
  λb hb hx=>by rw[ab.frame b (Nat.lt_of_lt_of_le hb hW.size) (λan=>by rcases ae b an with h' | h';omega;exact hx h')];exact hW.frame b hb hx,
  λb cs hb=>ab.ext b cs (hW.ext b cs hb),
  λb cs hb=>by
   rcases ab.new b cs hb with h' | h' | h'
   ·exact hW.new b cs h'
   ·exact .inr (.inl (ayr hW.size h'))
   ·exact .inr (ae b h'),
  ab.inv,ab.dF,
  λi e d hi hd=>⟨(ab.own i e d hi hd).1,by
   rcases(ab.own i e d hi hd).2 with h' | h'
   ·exact .inl (ayr hW.size h')
   ·exact ae _ h'⟩,
  ab.inj,ab.fresh,λi d hi hd=>ad i d (λhp=>aJ i hp hi) (hW.iK i d hi hd),ab.fM⟩
 have key:(match k8 P st fn.results.toList with | some (c,x)=>c∧k st.M pk x | none=>False) ->
   a.defers=[]∧∃v,(results fn a.tmps).run P w'=.ok v w'∧∃β' H' M' v' x pk,Ending.returned v=.returned v'∧Den β' H' x v'∧cM C β' H' M' w'∧(∀k d,k∉pk->β k=some d->β' k=some d)∧(∀b cs,H b=some cs->H' b=some cs)∧k M' pk x ∧
    w.heap.size<=w'.heap.size∧∀ks,W=some ks->pk=[]∧∀b,b<w.heap.size->(∀k∈ks,∀d,β k=some (some d)->b≠d.b)->w'.heap[b]?=w.heap[b]?:=by
  intro hq;refine⟨hF.1.1,?_⟩;split at hq
  ·rename_i c' x hr;obtain⟨v,ap,ar⟩:=A7 hF ab hr hq.1;refine⟨v,ap,β',H',st.M,v,x,pk,rfl,ar,aT,ad,ab.ext,hq.2,ab.size,λks aj=>?_⟩;obtain⟨g1,g2⟩:=aK ks aj;refine⟨g1,λb hb hn=>ab.frame b hb λan=>?_⟩;obtain⟨i,e,d,h1,h2,rfl⟩:=(hX b).1 an;exact hn i (g2 i e h1) d h2 rfl
  ·exact hq.elim
 cases e<;>simp only[im]at hq<;>simp only[bodyPost]
 case normal=>exact key hq
 case ret=>exact key hq
theorem iG{f:FuncId}{fn:Func}{c:Code}{args:List SV}{T:aC}{pk:List Nat}{Φ:aC->SV->Prop}(hf:P.funcs[f]?=some fn)(hb:fn.body=some c)(hn:args.length<=fn.ntmps)
  (h:∀C':Ctx,C'.fx=(ayq T.length).filter (λi=>!pk.contains i)->aa P C' c ⟨fn.ntmps,l6 0 args,T⟩ (im P fn.results.toList pk (sY T pk Φ))):kZ P f args T pk Φ:=by
 intro C hC;exact I2 hf hb hn pk (λi _ hi=>by rw[hC]at hi;cases hi) (λks h=>by cases h) h
end
end Go.Sv
namespace Go.Sv
open Go Go.RowKit
section
variable {P:Program} {C:Ctx} {ops:Array Oper} {R:bf} {st:St}
theorem cj.qI {i:Nat} {ks:List Nat} {r:Pl} (np:∀c st,¬R (.panic c) st) (h:match ops[i]? with
  | none=>False
  | some o=>gd ops o st (λst'=>H8 ks st' o.op∧cO P C none o st' (λac=>cj P C ops r ac R) (λ_=>False)) (λst'=>cj P C ops r st' R)):cj P C ops (.q i ks r) st R:=λak L hL β H a w hF hW=>by
 simp only[ay,ayt]at hL;obtain⟨hq,hL⟩:=hL;split at h
 ·exact h.elim
 ·rename_i o ho;simp only[Vr,ho,ayt]at hq;obtain⟨h1,h2,h3,h4,h5⟩:=hq;simp only[ayG,ayt,Bool.not_eq_true']at h4
  let D:Nat->Bool:=λj=>(QT ops i).contains j
  let U:Nat->Prop:=λb=>∃j,j<ops.size∧j≠i∧D j=false∧L.getD j true=false∧Wb β w.heap.size (r.Y j) b
  have aV:(∃t x,o.op=.load t x)->∀b,U b->b<w.heap.size->tY∈ks∨∃k∈ks,∃d,β k=some (some d)∧d.b=b:=by
   rintro⟨t',x',aI⟩ b ⟨j,al,au,av,aw,a4,am⟩ hb;obtain⟨dst,op,type,pos,after,guard⟩:=o;simp only at aI;subst aI;simp only[ayG,aBF,ayH,beq_iff_eq]at h5;have aj:∀k∈r.Y j,k∈ks:=λk hk=>by
    rcases h5 j al with h | h | h | h
    ·exact absurd h au
    ·rw[aw]at h;cases h
    ·rw[show(QT ops i).contains j=false from av]at h;cases h
    ·have:=h k hk;simpa using this
   rcases am with am | am | ⟨k,hk,d,hd,aW⟩
   ·exact .inl (aj _ am)
   ·omega
   ·exact .inr ⟨k,aj k hk,d,hd,aW⟩
  have core:∀v,YieldsIf P ops (λw'=>RS U w w'∧uU H w') o v a->(∃fr,jl β H st.n fr (a.put o.dst v)∧cj P C ops r ⟨st.n,fr,st.M⟩ R)->tV P ops (QQ C R) (λj w1 w2=>GG H (Wb β w.heap.size ((Pl.q i ks r).Y j)) w1 w2) (Pl.q i ks r).len L a w:=by
   rintro v hy ⟨fr,af,hv⟩;refine w8 (D:=D) (S:=λw'=>RS U w w'∧uU H w') ho (Region.noSelect_spec ak) (λc a' w' ⟨st',hp,_⟩=>absurd hp (np c st')) (λj oj hj aY=>?_) (λw1 hs=>⟨RS.EC w1,hs.2⟩) _ L a w ?_ (λj hj=>?_) (Region.free_spec ho h2) (by simpa using h3) hy ⟨RS.EC w,hW.inv⟩ ?_
   ·have:=h4 j (by simpa[D]using hj);rw[aY]at this;simp only[Array.any_eq_true',ayt,ayH,beq_iff_eq]at this;exact this.2
   ·intro j w1 w2 al au av aw hs hg;exact⟨hs.1.trans hg.1 λb _ hb=>⟨j,al,au,av,aw,hb⟩,hg.2⟩
   ·exact(h4 j (by simpa[D]using hj)).1
   ·exact hv ak _ hL β H _ w af hW
  rcases P2 h hF with⟨hw,fr,af,hi,az⟩ | ⟨hw,fr,af,aE⟩
  ·obtain⟨c,x,hx,hc,hd,aZ⟩:=tR h1 hi az;obtain⟨v,ap,ar⟩:=HL (st:=⟨st.n,fr,st.M⟩) hW af hx hc hi aV;exact core v (.inl ⟨hw,ap⟩) ⟨_,af.fg hd ar,aZ⟩
  ·exact core undef (.inr ⟨hw,rfl⟩) ⟨fr,af,aE⟩
theorem cj.lI {i:Nat} {ks:List Nat} {r:Pl} (h:match ops[i]? with
  | none=>False
  | some o=>gd ops o st (λst'=>((okW ks st' o.op∧AD ks r o.op)∧r.there st'.M)∧cO P C (some (nb ks)) o st' (λac=>cj P C ops r ac R) (λac=>cj P C ops r ac R)) (λst'=>cj P C ops r st' R)):cj P C ops (.l i ks r) st R:=λak L hL β H a w hF hW=>by
 simp only[ay,ayt,beq_iff_eq]at hL;split at h
 ·exact h.elim
 ·rename_i o ho;exact Kf hL.1 (kn ho ak hL.2 (λ_ h=>h) (λ_ h=>h) (λ_ h=>h) h hF hW (λk hk=>by simp[Pl.Y,one,hk]) (λj k hk=>by simp[Pl.Y,hk]) (axq _))
theorem aa.ad3{id:Nat}(pl:Pl)(hm:P.follows .mixedOrders=true)(hp:(Region.noSelect ops&&(ay ops (Array.replicate ops.size false) pl&&decide (pl.len<=ops.size)))=true)
  (h:cj P C ops pl st R):aa P C (.region id ops true) st R:=by
 simp only[ayt,decide_eq_true_eq]at hp;rintro a w ⟨β,H,hF,hW⟩;exact wp_region_any hm (zc _ _ _ _ (Ef hp.2.2 (h hp.1 _ hp.2.1 β H a _ hF hW.drew)))
end
section
variable {P:Program} {C:Ctx} {β:cu} {H:Hp} {M:aC} {w:World}
end
section
variable {P:Program} {C:Ctx} {st:St}
end
end Go.Sv
set_option maxRecDepth 10000
namespace Go.Sx
open Go Go.Sv Go.Pl Go.Proofs Go.Tb Go.Ut Go.Mx Go.Li Go.Dt
structure Tc where
 p:aB
 n:Nat
 m:Nat
 N:Nat
 low:List Bo
 high:List Bo
 cost:List Rat
structure Tb where
 wh:List Int
 x:List Rat
 basic:List Nat
 row:List Int
 R:List (List Rat)
def tS(c:Tc):SV:=.agg [.dG (bS c.p) 0,iv c.n,iv c.m,.ro (c.low.map dA),.ro (c.high.map dA),.ro (c.cost.map aS),.view 1 0 c.N,.view 2 0 c.N,.view 3 0 c.m,.view 4 0 c.N,.view 5 0 c.m]
def R5(N i:Nat):SV:=.view (i+6) 0 N
def Dc(N m:Nat):List SV:=(ayq m).map (R5 N)
def tH(c:Tc)(s:Tb):aC:=[some ⟨11,[tS c],false⟩,some ⟨1,s.wh.map iv,false⟩,some ⟨4,s.x.map aS,false⟩,some ⟨1,s.basic.map cv,false⟩,some ⟨1,s.row.map iv,false⟩,some ⟨1,Dc c.N c.m,false⟩]
def tT(c:Tc)(s:Tb)(tl:aC):aC:=tH c s++(eH s.R++tl)
structure qe(c:Tc):Prop where
 m7:c.m<=7
 ur:c.N<=14
 lo:c.low.length=c.N
 hi:c.high.length=c.N
 co:c.cost.length=c.N
structure wg(c:Tc)(s:Tb):Prop where
 w:s.wh.length=c.N
 x:s.x.length=c.N
 b:s.basic.length=c.m
 r:s.row.length=c.N
 R:s.R.length=c.m
 Rr:∀i,i<c.m->(gt s.R i).length=c.N
 bb:∀i,i<c.m->gt s.basic i<c.N
@[simp] theorem aiF(N m:Nat):(Dc N m).length=m:=by simp[Dc]
theorem gM{N m i:Nat}(h:i<m):aM (Dc N m) i=.view (i+6) 0 N:=by unfold Dc;rw[ct _ (by simpa using h)];simp[R5,gt,h]
def xz(s:Tb)(N:Nat):Nat->List Rat
 | 0=>s.x
 | i+1=>(xz s N i).set (gt s.basic i) (aG (λj=>gt (gt s.R i) j*gt (xz s N i) j) N)
@[simp] theorem si(s:Tb)(N:Nat):∀i,(xz s N i).length=s.x.length
 | 0=>rfl
 | i+1=>by simp only[xz,List.length_set];exact si s N i
theorem jW{c:Tc}{s:Tb}{tl:aC}(h:s.R.length=c.m):(tT c s tl).length=c.m+6+tl.length:=by simp[tT,tH,h];omega
theorem qm{C:Ctx}{c:Tc}{s:Tb}{pk:List Nat}(h:s.R.length=c.m)(hC:C.fx=(ayq (tT c s []).length).filter (λi=>!pk.contains i)):∀k∈C.fx,k<c.m+6:=λk hk=>by rw[hC,List.mem_filter,aBF,jW h]at hk;simpa using hk.1
theorem sf{N m k:Nat}(h:m+6<=k):SV.j3 k (Dc N m)=true:=by
 unfold Dc;rw[kA,ayG];intro i hi;have hi:i<m:=by simpa using hi
 simp[R5];omega
theorem fv{C:Ctx}{N0:Nat}{c:Tc}(s:Tb){fr fr':List (Nat × SV)}{tl tl':aC}(h:s.R.length=c.m)(hx:∀k∈C.fx,k<c.m+6)(hf:bY fr fr')(ht:fj tl tl')(h2:gK (c.m+6+tl'.length) fr')(h3:eA (c.m+6+tl'.length) tl') :
  Le C ⟨N0,fr,tT c s tl⟩ ⟨N0,fr',tT c s tl'⟩:=by
 refine Le.dE ⟨rfl,hf,?_,.inr ⟨?_,?_,?_⟩⟩
 ·exact mP (tH c s) (mP _ ht)
 ·rw[jW h];exact h2
 ·rw[jW h];refine nR ?_ (nR (pH _ _) h3);have:=sf (N:=c.N) (m:=c.m) (k:=c.m+6+tl'.length) (by omega);simp[tH,tS,eA,this];omega
 ·rw[jW h];intro k hk;have:=hx k hk;omega
theorem uV{f:Nat->Rat}{V:Nat}:∀k,(∀i,i<k->Proofs.qw V (f i))->Proofs.qw (1+k*(V+1)) (aG f k)
 | 0,_=>⟨kF _,mM (by omega)⟩
 | k+1,h=>by have h1:=uV k λi hi=>h i (by omega);refine ax (kX h1 (h k (by omega))) ?_;rw[Nat.add_mul];omega
theorem cR{α:Type}(f:α->SV)(hf:∀a,ig (f a)=f a):∀l:List α,kT (l.map f)=l.map f
 | []=>rfl
 | a::l=>by simp only[List.map_cons,kT,hf a,cR f hf l]
theorem dM{l:List Int}{i:Nat}{x:Int}:da (l.map iv) i (.val (.int .i64 x))=(l.set i x).map iv:=by rw[cq,aAq];rfl
@[simp] theorem aau(q:Rat):ig (aS q)=aS q:=rfl
theorem qU:∀{l:List SV} {j:Nat} {x:SV},kT (da l j x)=da (kT l) j (ig x)
 | [],_,_=>rfl
 | _::_,0,_=>by simp[da,kT]
 | _::l,j+1,x=>by simp only[da,kT];rw[qU]
theorem Qr{M:aC}{k:Nat}{e:cJ}:ry (aX M k (some e))=aX (ry M) k (some ⟨e.sz,kT e.es,e.fz⟩):=by unfold ry;rw[dL,aAq,dL];rfl
theorem HM(c:Tc)(s:Tb)(tl:aC):ry (tT c s tl)=tT c s (ry tl):=by unfold tT;rw[lM,lM,ve];congr 1;unfold tH tS Dc;simp only[jO,nM,kT,Kj];rw[cR iv (λ_=>rfl),cR aS (λ_=>rfl),cR cv (λ_=>rfl),cR iv (λ_=>rfl),cR (R5 c.N) (λ_=>rfl)];simp
theorem S0{s:Tb}{c:Tc}{l:List Rat}{i j:Nat}{tl:aC}(hi:i<s.R.length):ry (tH c s++aX (eH s.R++tl) i (some ⟨4,da (l.map aS) j (.agg [.val (.bool false),.val (.slice none 0 0),.val (.bool false),.val (.slice none 0 0)]),false⟩))=tT c { s with R:=s.R.set i (l.set j 0) } (ry tl):=by
 have e1:ry (tH c s)=tH c s:=by
  have h0:ry (tH c { s with R:=[] })=tH c { s with R:=[] }:=by simpa[tT,eH]using HM c { s with R:=[] } []
  exact h0
 rw[lM,e1,Qr,lM,ve,qU,OH];have e2:ig (.agg [.val (.bool false),.val (.slice none 0 0),.val (.bool false),.val (.slice none 0 0)])=aS 0:=by rw[<-ou];rfl
 rw[e2,cx,yV hi];rfl
theorem zy:∀(A B:aC),fj (A++B) A
 | [],B=>by cases B<;>trivial
 | _::A,B=>⟨.inr rfl,zy A B⟩
theorem I8(c:Tc)(s:Tb)(tl:aC):fj (tT c s tl) (tH c s++eH s.R):=mP _ (zy _ _)
theorem Dr{c:Tc}{s:Tb}(h:s.R.length=c.m):eA (tH c s++eH s.R).length (tH c s++eH s.R):=by
 have e:(tH c s++eH s.R).length=c.m+6:=by simp[tH,h]
 rw[e];refine nR ?_ (pH _ _);have:=sf (N:=c.N) (m:=c.m) (k:=c.m+6) (by omega);simp[tH,tS,eA,this]
theorem fY{C:Ctx}{N0:Nat}{c:Tc}(s:Tb){fr fr':List (Nat × SV)}{tl:aC}(h:s.R.length=c.m)(hx:∀k∈C.fx,k<c.m+6)(hf:bY fr fr')(h2:gK (c.m+6) fr') :
  Le C ⟨N0,fr,tT c s tl⟩ ⟨N0,fr',tH c s++eH s.R⟩:=by
 have:=fv (C:=C) (N0:=N0) (c:=c) (tl:=tl) (tl':=[]) s h hx hf (by simp[fj]) h2 (by simp[eA]);unfold tT at this ⊢;simpa using this
theorem Qn{C:Ctx}{N0:Nat}{c:Tc}(s:Tb){l:List Rat}{i j:Nat}{fr fr':List (Nat × SV)}{tl tl':aC}(h:s.R.length=c.m)(hi:i<c.m)(hx:∀k∈C.fx,k<c.m+6)(hf:bY (Aa fr) fr')(ht:fj (ry tl) tl')(h2:gK (c.m+6+tl'.length) fr')(h3:eA (c.m+6+tl'.length) tl') :
  Le C ⟨N0,fr,tH c s++aX (eH s.R++tl) i (some ⟨4,da (l.map aS) j (.agg [.val (.bool false),.val (.slice none 0 0),.val (.bool false),.val (.slice none 0 0)]),false⟩)⟩ ⟨N0,fr',tT c { s with R:=s.R.set i (l.set j 0) } tl'⟩:=by
 refine(Le.nl _).trans ?_;unfold LW;rw[S0 (by omega)];exact fv { s with R:=s.R.set i (l.set j 0) } (by simpa using h) hx hf ht h2 h3
theorem tD{C:Ctx}{N0:Nat}{c:Tc}(s:Tb){fr fr':List (Nat × SV)}{tl tl':aC}(h:s.R.length=c.m)(hx:∀k∈C.fx,k<c.m+6)(hf:bY (Aa fr) fr')(ht:fj (ry tl) tl')(h2:gK (c.m+6+tl'.length) fr')(h3:eA (c.m+6+tl'.length) tl') :
  Le C ⟨N0,fr,tT c s tl⟩ ⟨N0,fr',tT c s tl'⟩:=by
 refine(Le.nl _).trans ?_;unfold LW;rw[HM];exact fv s h hx hf ht h2 h3
end Go.Sx
namespace Go.Proofs
open Go.Sv Go Go.Tb Go.Pl Go.Ut Go.Mx Go.Li Go.Dt Go.Sx
theorem IG(c:Tc)(s:Tb)(hc:qe c)(h:wg c s){W V:Nat}(h1:1<=W)(hW:∀i j,i<c.m->j<c.N->qw W (gt (gt s.R i) j))(hV:∀i k,i<c.m->k<c.N->gt (gt s.R i) k≠0->qw V (gt (xz s c.N i) k))(hz:1+c.N*(W+V+1)<=10000000000) :
  kZ Tryz.prog 120 [.ptr 0 0 0] (tT c s []) [] (λT x=>T=tT c { s with x:=xz s c.N c.m } []∧x=.bM []):=by
 have h7:=hc.m7;have a5:=hc.ur;have hR:=h.R;have hx:=h.x;have hb:=h.b;refine gV Tryz.func120 rfl (by simp) (λC hC=>?_);have fx:=qm hR hC;simp[tT,tH,tS];refine aa.bB (ι:=Nat) (λi=>⟨53,[(0,.ptr 0 0 0),(10,.view 5 0 c.m),(11,iv c.m),(12,iv i)],tT c { s with x:=xz s c.N i } []⟩)
  (λi=>i<=c.m) (λi=>c.m - i) 0 (by simp) ?_ ?_
 ·simp[aP,tT,tH,tS,xz]
 ·rintro i hi;by_cases aR:i<c.m
  ·have lb:=gM (N:=c.N) aR;simp only[tT,tH,tS,ayb,aAf];simp(disch:=omega)[aR,lb,hR];repeat refine awG ?_
   refine aa.le (tD (tl:=[some ⟨4,[.agg [.val (.bool false),.val (.slice none 0 0),.val (.bool false),.val (.slice none 0 0)]],false⟩]) (fr':=[(0,.ptr 0 0 0),(10,.view 5 0 c.m),(11,iv c.m),(12,iv i),(2,iv i),(4,.ptr (c.m+6) 0 0),(17,.view (i+6) 0 c.N),(18,iv c.N),(19,iv (0:Nat))]) (tl':=[some ⟨4,[aS 0],false⟩]) { s with x:=xz s c.N i } hR fx ?_ (by simp[ou]) (by simp[gK];omega) (by simp[eA])) ?_
   ·simp[bY,Go.Sv.get]
   refine aa.bB (ι:=Nat) (λj=>⟨53,[(0,.ptr 0 0 0),(10,.view 5 0 c.m),(11,iv c.m),(12,iv i),(2,iv i),(4,.ptr (c.m+6) 0 0),(17,.view (i+6) 0 c.N),(18,iv c.N),(19,iv j)],tT c { s with x:=xz s c.N i } [some ⟨4,[aS (aG (λj=>gt (gt s.R i) j*gt (xz s c.N i) j) j)],false⟩]⟩)
    (λj=>j<=c.N) (λj=>c.N - j) 0 (by simp) ?_ ?_
   ·simp[aP,tT,tH,tS,aG,ao]
   ·rintro j hj;have tg:=λtl:aC=>fE (C:=s.R) (tl:=tl) (e:=i) (by omega);have lr:=ch (l:=gt s.R i) (i:=j);simp only[tT,tH,tS,ayb,aAf];by_cases ag:j<c.N
    ·have Rr:=h.Rr i aR;have lr:=ch (l:=gt s.R i) (i:=j) (by omega);have lx:=ch (l:=xz s c.N i) (i:=j) (by simp;omega);have xl:(xz s c.N i).length=c.N:=by rw[si,hx]
     have q1:=hW i j aR ag;have qs:=uV (f:=λj=>gt (gt s.R i) j*gt (xz s c.N i) j) (V:=W+V) j (λk hk=>by
      by_cases z:gt (gt s.R i) k=0
      ·rw[z,aBG];exact ax (mG (k:=1) (x:=0) (kF _) (by omega)) (by omega)
      ·exact cy (hW i k aR (by omega)) (hV i k aR (by omega) z) (by omega))
     have a6:1*(W+V+1)<=c.N*(W+V+1):=axn _ (by omega);have al:j*(W+V+1)<=c.N*(W+V+1):=axn _ hj;simp(disch:=omega)[ag,tg,Rr,lr,hR,xK,BM];repeat refine awG ?_
     refine awI (iy (gt (gt s.R i) j)) ?_;simp(disch:=omega)[aD,Int.sign_eq_zero_iff_zero,Rat.num_eq_zero];repeat refine awG ?_
     refine⟨λz=>?_,λz=>?_⟩
     ·have q2:=hV i j aR ag z;refine aa.awH (.qs [0,1,2,3,4,5,6,7,8]<|.l 9 []<|.l 10 []<|.l 11 [c.m+6]<|.nil) ?_;simp(disch:=omega)[ag,cN,xK,lx,xl];repeat refine awG ?_
      refine awI (pA _ _ (aq q1 (by omega)) (aq q2 (by omega))) ?_;simp(disch:=omega)[cN];repeat refine awG ?_
      refine awI (pX _ _ (aq qs (by omega)) (aq (cy q1 q2 (by omega)) (by omega))) ?_;simp(disch:=omega)[cN,cV,aD];repeat refine awG ?_
      refine⟨j+1,by omega,by omega,?_⟩;exact fv { s with x:=xz s c.N i } hR fx (by simp(disch:=omega)[bY,Go.Sv.get]) (by simp[fj,aG]) (by simp[gK];omega) (by simp[eA])
     ·refine⟨j+1,by omega,by omega,?_⟩;exact fv { s with x:=xz s c.N i } hR fx (by simp(disch:=omega)[bY,Go.Sv.get]) (by simp[fj,aG,z,aBG,Rat.add_zero]) (by simp[gK];omega) (by simp[eA])
    ·obtain rfl:j=c.N:=by omega
     have a0:=fI (l:=s.basic) (i:=i) (by omega);have a7:=h.bb i aR;have xl:(xz s c.N i).length=c.N:=by rw[si,hx]
     have a1:=ch (l:=xz s c.N i) (i:=gt s.basic i) (by omega);simp(disch:=omega)[];repeat refine awG ?_
     refine aa.awH (.qs [0,1,2,3,4,5,6,7,8,9,10,11,12]<|.l 13 [2]<|.nil) ?_;simp(disch:=omega)[cN,a0,xl,hb,a1,cx, -aAq];repeat refine awG ?_
     refine⟨i+1,by omega,by omega,?_⟩;exact fY { s with x:=xz s c.N (i+1) } hR fx (by simp(disch:=omega)[bY,Go.Sv.get,aD]) (by simp[gK])
  ·obtain rfl:i=c.m:=by omega
   simp;exact⟨_,_,⟨rfl,rfl⟩,rfl,(by rw[tT,List.append_nil];exact ao _),by simp,.inl (by simp[tT,tH])⟩
end Go.Proofs
namespace Go.Sx
open Go Go.Sv Go.Pl Go.Proofs Go.Tb Go.Ut Go.Mx Go.Li Go.Dt
def ZL(w:Nat)(m:List (List Rat))(z:Nat->Rat):Prop:=∀i,i<m.length->aG (λk=>gt (gt m i) k*z k) w=0
structure Sh(n w:Nat)(m:List (List Rat)):Prop where
 l:m.length=n
 r:∀i,i<n->(gt m i).length=w
theorem BC{n w:Nat}{m:List (List Rat)}(h:Sh n w m){k t i:Nat}(hk:k<n)(ht:t<n)(hi:i<n):(BK m k t i).length=w:=by
 unfold BK;split
 ·exact h.r t ht
 ·split
  ·exact h.r k hk
  ·exact h.r i hi
theorem Sh.step{n w:Nat}{m:List (List Rat)}(h:Sh n w m){k t c:Nat}(hk:k<n)(ht:t<n):Sh n w (gA m k t c) where
 l:=by rw[kK,h.l]
 r i hi:=by
  rw[iF (by rw[h.l];exact hi)];split
  ·simp[h.r t ht]
  ·rw[Fw];exact BC h hk ht hi
theorem y6{h:List Rat}{w c:Nat}(hl:h.length=w)(z:Nat->Rat):aG (λk=>gt (mh h c) k*z k) w=aG (λk=>gt h k*z k) w*(1 / gt h c):=by rw[<-xC];refine aO w λk hk=>?_;rw[zj (by omega),aBi,aBi];grind
theorem Kw{a b:List Rat}{y:Rat}{w:Nat}(hl:a.length=w)(z:Nat->Rat):aG (λk=>gt (tW a b y) k*z k) w=aG (λk=>gt a k*z k) w - y*aG (λk=>gt b k*z k) w:=by rw[<-jS,<-kN];refine aO w λk hk=>?_;rw[pW (by omega)];grind
theorem PK{n w:Nat}{m:List (List Rat)}(h:Sh n w m){k t c:Nat}(hk:k<n)(ht:t<n)(hp:gt (gt m t) c≠0)(z:Nat->Rat):ZL w (gA m k t c) z↔ZL w m z:=by
 have hl:=h.l;have inv:1 / gt (gt m t) c≠0:=λe=>by have:1 / gt (gt m t) c*gt (gt m t) c=1:=Rat.div_mul_cancel hp;rw[e]at this;grind
 constructor
 ·intro hz;have z0:=hz k (by rw[kK];omega);rw[iF (by omega),if_pos rfl,y6 (h.r t ht)]at z0;have zt:aG (λq=>gt (gt m t) q*z q) w=0:=by
   rcases Rat.mul_eq_zero.1 z0 with q | q
   ·exact q
   ·exact absurd q inv
  have zi:∀i,i<n->i≠k->aG (λq=>gt (BK m k t i) q*z q) w=0:=λi hi a2=>by have z1:=hz i (by rw[kK];omega);rw[iF (by omega),if_neg a2,Kw (BC h hk ht hi),y6 (h.r t ht),zt]at z1;rw[aBG,aBH]at z1;grind
  intro r hr;by_cases e1:r=t
  ·rw[e1];exact zt
  ·by_cases e2:r=k
   ·have:=zi t ht (λe=>e1 (by rw[e2,e]));unfold BK at this;rw[if_neg (λe=>e1 (by rw[e2,e])),if_pos rfl]at this;rw[e2];exact this
   ·have:=zi r (by omega) e2;unfold BK at this;rw[if_neg e2,if_neg e1]at this;exact this
 ·intro hz r hr;rw[kK]at hr;have zt:=hz t (by omega);rw[iF hr];by_cases e:r=k
  ·rw[if_pos e,y6 (h.r t ht),zt,aBG]
  ·rw[if_neg e,Kw (BC h hk ht (by omega)),y6 (h.r t ht),zt];have:aG (λq=>gt (BK m k t r) q*z q) w=0:=by
    unfold BK;rw[if_neg e];split
    ·exact hz k (by omega)
    ·exact hz r hr
   rw[this];grind
structure IL(n w:Nat)(a:List (List Rat))(s:List (List Rat) × List Nat)(c:Nat):Prop where
 sh:Sh n w s.1
 f:s.2=ayq c
 u:∀q,q<c->∀i,i<n->gt (gt s.1 i) q=if i=q then 1 else 0
 k:∀z,ZL w s.1 z↔ZL w a z
def z7(w:Nat)(a:List (List Rat))(f:List Nat)(b:Nat):Prop:=(∃l,f=ayq b++l∧∀x,x∈l->b<x)∧∃z,ZL w a z∧z b=1∧∀k,b<k->z k=0
theorem z7.next{w c b:Nat}{a:List (List Rat)}{s:List (List Rat) × List Nat}(h:z7 w a s.2 b)(hb:b<c):z7 w a (nQ s c).2 b:=by
 obtain⟨⟨l,hl,hx⟩,hz⟩:=h;refine⟨?_,hz⟩;by_cases h1:s.2.length<s.1.length
 ·by_cases h2:∃t,tm s.1 c s.2.length t
  ·obtain⟨t,ht⟩:=h2;rw[u7 h1 ht];refine⟨l++[c],by simp[hl],λx a3=>?_⟩;rcases List.mem_append.1 a3 with q | q
   ·exact hx x q
   ·rw[List.mem_singleton.1 q];exact hb
  ·have:nQ s c=s:=by unfold nQ;rw[dif_neg h2];split<;>rfl
   rw[this];exact⟨l,hl,hx⟩
 ·rw[wT h1];exact⟨l,hl,hx⟩
theorem Qm{m:List (List Rat)}{c k:Nat}(h:¬∃t,tm m c k t):T7 m c k:=by
 have:∀d i,i=k+d->i<m.length->gt (gt m i) c=0:=λd=>by
  induction d using Nat.strongRecOn with
  | ind d ih =>
   intro i hi hl;apply Classical.byContradiction;intro hn;exact h ⟨i,by omega,hl,hn,λj h1 h2=>ih (j - k) (by omega) j (by omega) (by omega)⟩
 exact λi h1 h2=>this (i - k) i (by omega) h2
theorem JI{a:List (List Rat)}{n w:Nat}(h:Sh n w a)(hw:n<=w):∀c,c<=n->IL n w a (bU a c) c∨∃b,b<c∧z7 w a (bU a c).2 b
 | 0,_=>.inl ⟨h,rfl,λq hq=>by omega,λz=>Iff.rfl⟩
 | c+1,hc=>by
  rcases JI h hw c (by omega)with ih | ⟨b,hb,ih⟩
  ·have hl:=ih.sh.l;have h1:(bU a c).2.length=c:=by rw[ih.f];simp
   show IL n w a (nQ (bU a c) c) (c+1)∨∃b,b<c+1∧z7 w a (nQ (bU a c) c).2 b;by_cases h2:∃t,tm (bU a c).1 c (bU a c).2.length t
   ·obtain⟨t,ht⟩:=h2;left;rw[u7 (by omega) ht,h1];rw[h1]at ht;obtain⟨g1,g2,g3,g4⟩:=ht;have ah:t<n:=by omega
    refine⟨ih.sh.step (by omega) ah,by simp[ih.f,List.range_succ],λq hq i hi=>?_,λz=>(PK ih.sh (by omega) ah g3 z).trans (ih.k z)⟩;show gt (gt (gA _ _ _ _) i) q=_;rw[iF (by omega)];have o1:∀x,x<w->gt (mh (gt (bU a c).1 t) c) x=gt (gt (bU a c).1 t) x / gt (gt (bU a c).1 t) c:=λx hx=>zj (by rw[ih.sh.r t ah];exact hx);have pp:gt (gt (bU a c).1 t) c / gt (gt (bU a c).1 t) c=1:=by rw[aBi];exact Rat.mul_inv_cancel _ g3
    by_cases eq:q=c
    ·subst eq;by_cases ei:i=q
     ·rw[if_pos ei,if_pos ei,o1 q (by omega),pp]
     ·rw[if_neg ei,if_neg ei,pW (by rw[BC ih.sh (by omega) ah hi];omega),o1 q (by omega),pp,Rat.one_mul,Rat.sub_self]
    ·have aF:q<c:=by omega
     have z1:gt (mh (gt (bU a c).1 t) c) q=0:=by rw[o1 q (by omega),ih.u q aF t ah,if_neg (by omega),aBi,aBG]
     by_cases ei:i=c
     ·rw[if_pos ei,z1,if_neg (by omega)]
     ·rw[if_neg ei,pW (by rw[BC ih.sh (by omega) ah hi];omega),z1,aBG];have e0:∀x:Rat,x - 0=x:=λx=>by grind
      rw[e0];unfold BK;rw[if_neg ei];by_cases et:i=t
      ·rw[if_pos et,ih.u q aF c (by omega),if_neg (by omega),if_neg (by omega)]
      ·rw[if_neg et,ih.u q aF i hi]
   ·right;refine⟨c,by omega,?_⟩;have e:nQ (bU a c) c=bU a c:=by unfold nQ;rw[dif_neg h2];split<;>rfl
    rw[e];have np:=Qm h2;rw[h1]at np;refine⟨⟨[],by simp[ih.f],λx hx=>by simp at hx⟩,λk=>if k=c then 1 else if k<c then - gt (gt (bU a c).1 k) c else 0,(ih.k _).1 λi hi=>?_,if_pos rfl,λk hk=>?_⟩
    ·by_cases aH:i<c
     ·rw[HG (p:=i) (q:=c) aH w (by omega) (λk hk h3 h4=>?_)]
      ·simp only[if_neg (show ¬i=c by omega),if_pos aH,if_true];rw[ih.u i aH i (by omega),if_pos rfl];grind
      ·simp only[if_neg h4];split
       ·rename_i h5;rw[ih.u k h5 i (by omega),if_neg (λe=>h3 e.symm),aBG]
       ·rw[aBH]
     ·refine fi w λk hk=>?_;by_cases e1:k=c
      ·rw[e1,np i (by omega) hi,aBG]
      ·simp only[if_neg e1];split
       ·rename_i h5;rw[ih.u k h5 i (by omega),if_neg (by omega),aBG]
       ·rw[aBH]
    ·simp only[if_neg (show ¬k=c by omega),if_neg (show ¬k<c by omega)]
  ·exact .inr ⟨b,by omega,ih.next hb⟩
theorem Kn{a:List (List Rat)}{n w:Nat}(h:Sh n w a)(hw:n<=w):IL n w a (bU a w) n∨∃b,b<n∧z7 w a (bU a w).2 b:=by
 rcases JI h hw n (axq _)with g | ⟨b,hb,g⟩
 ·left;have:bU a (n+(w - n))=bU a n:=p6 (by rw[g.f,g.sh.l];simp) _;rw[show n+(w - n)=w by omega]at this;rw[this];exact g
 ·right;refine⟨b,hb,?_⟩;have:∀d,z7 w a (bU a (n+d)).2 b:=λd=>by
   induction d with
   | zero=>exact g
   | succ d ih=>exact ih.next (s:=bU a (n+d)) (c:=n+d) (by omega)
  have q:=this (w - n);rw[show n+(w - n)=w by omega]at q;exact q
theorem z7.am3{w b:Nat}{a:List (List Rat)}{f:List Nat}(h:z7 w a f b):f.length<=b∨gt f b≠b:=by
 obtain⟨⟨l,hl,hx⟩,_⟩:=h
 match l,hl,hx with
 | [],hl,_=>left;simp[hl]
 | y::l,hl,hx =>
  right;have:=hx y (by simp);have e:gt f b=y:=by rw[hl];simp only[gt,List.getD_eq_getElem?_getD];rw[List.getElem?_append_right (by simp)];simp
  rw[e];omega
end Go.Sx

