/- A text of the prover's own. -/
import Derived.Test.YtnimjdcaajmfcaaGreatDoorVPl
open Bool renaming and_eq_true->ayt
open Option.some renaming injEq->awR
open Nat renaming lt_or_ge->axT,le_trans->ayr
open List renaming length_take->aAc,getElem?_take_of_lt->aw7,getElem?_map->aw9,map_cons->aw6,getElem?_eq_none->awT,getElem?_append_left->awO,mem_cons->ayn,length_cons->awV,map_nil->ayS,range->ayq,getElem?_eq_some_iff->ayd,mem_map->ayN,range'->aAd,range'_succ->aAe,cons_append->ayb,nil_append->aAf
open Iff renaming rfl->aAg
open Classical renaming choose->aAh,choose_spec->aAi
namespace Go.Sv
open Go Go.RowKit
mutual
def k6(k:Nat)(es:List SV):SV->SV
 | .view k' i n=>if k'=k∧i+n<=es.length then .ro ((es.drop i).take n) else .view k' i n
 | .ptr k' i j=>if k'=k∧i<es.length∧(aM es i).aW=false then .dG (aM es i) j else .ptr k' i j
 | .agg l=>.agg (j6 k es l)
 | .bM l=>.bM (j6 k es l)
 | .ju t x=>.ju t (k6 k es x)
 | .j7 f l r=>.j7 f (j6 k es l) (j6 k es r)
 | .val v=>.val v
 | .ro l=>.ro l
 | .dG x j=>.dG x j
 | .fT t g=>.fT t g
 | .any=>.any
 | .mp k'=>.mp k'
def j6(k:Nat)(es:List SV):List SV->List SV
 | []=>[]
 | x::l=>k6 k es x::j6 k es l
end
mutual
theorem Ai(k:Nat)(es:List SV):∀x:SV,x.pure=true->k6 k es x=x
 | .mp _,_=>rfl
 | .view _ _ _,h=>by simp[SV.pure]at h
 | .ptr _ _ _,h=>by simp[SV.pure]at h
 | .agg l,h=>by simp only[k6];rw[dh k es l (by simpa[SV.pure]using h)]
 | .bM l,h=>by simp only[k6];rw[dh k es l (by simpa[SV.pure]using h)]
 | .ju _ x,h=>by simp only[k6];rw[Ai k es x (by simpa[SV.pure]using h)]
 | .j7 _ l r,h=>by simp only[SV.pure,ayt]at h;simp only[k6];rw[dh k es l h.1,dh k es r h.2]
 | .val _,_=>rfl
 | .ro _,_=>rfl
 | .dG _ _,_=>rfl
 | .fT _ _,_=>rfl
 | .any,_=>rfl
theorem dh(k:Nat)(es:List SV):∀l:List SV,SV.bF l=true->j6 k es l=l
 | [],_=>rfl
 | x::l,h=>by simp only[SV.bF,ayt]at h;simp only[j6];rw[Ai k es x h.1,dh k es l h.2]
end
theorem R4(k:Nat)(es:List SV):∀l:List SV,(j6 k es l).length=l.length
 | []=>rfl
 | x::l=>by simp[j6,R4 k es l]
theorem Ra(k:Nat)(es:List SV)(x:SV)(h:x.one=true):(k6 k es x).one=true:=by
 cases x with
 | ptr k' i j=>simp only[k6];by_cases hc:k'=k∧i<es.length∧(aM es i).aW=false<;>simp[hc,SV.one]
 | view k' i n=>simp only[k6];by_cases hc:k'=k∧i+n<=es.length<;>simp[hc,SV.one]
 | agg l=>cases h
 | bM l=>cases h
 | val v=>exact h
 | _=>rfl
section
variable {P:Program} {C:Ctx} {β:cu} {H:Hp} {M:aC} {w:World}
mutual
theorem se(hW:cM C β H M w){k:Nat}{e:cJ}(hk:aA M k=some e)(hf:e.fz=true):∀{x:SV} {v:Value},Den β H x v->Den β H (k6 k e.es x) v
 | .val _,v,h=>h
 | .ro _,v,h=>h
 | .dG _ _,v,h=>h
 | .fT _ _,v,h=>h
 | .any,v,h=>h
 | .mp _,v,h=>h
 | .agg l,v,h=>by simp only[Den,k6]at h ⊢;obtain⟨vs,rfl,h⟩:=h;exact⟨vs,rfl,Hy hW hk hf h⟩
 | .bM l,v,h=>by simp only[Den,k6]at h ⊢;obtain⟨vs,rfl,h⟩:=h;exact⟨vs,rfl,vL hW hk hf h⟩
 | .ju t x,v,h=>by simp only[Den,k6]at h ⊢;obtain⟨u,rfl,h⟩:=h;exact⟨u,rfl,se hW hk hf h⟩
 | .j7 f l r,v,h=>by simp only[Den,k6]at h ⊢;obtain⟨vs,ws,rfl,h1,h2⟩:=h;exact⟨vs,ws,rfl,vL hW hk hf h1,vL hW hk hf h2⟩
 | .view k' i n,v,h=>by
  simp only[k6];split
  ·rename_i hc;obtain⟨rfl,aw⟩:=hc;have hlen:((e.es.drop i).take n).length=n:=by simp;omega
   simp only[Den]at h ⊢;rcases h with⟨a1,rfl,rfl,rfl⟩ | ⟨d,c,o,a1,a2,a3,a4,rfl⟩
   ·left;exact⟨by simp,_,_,rfl⟩
   ·rcases hW.dF k' e (aU hk)with⟨b1,_⟩ | ⟨d',cs,T,vs,b1,b2,b3,b4,b5,b6,b7,b8⟩ | ⟨d',ms,b1,b2,b3,b4⟩
    rotate_left 2
    ·rw[a1]at b1;simp only[awR]at b1;subst b1;rw[b2.2.1,b2.2.2]at a3;have bi:n=0:=by omega
     subst bi;left;exact⟨by simp,_,_,rfl⟩
    ·rw[a1]at b1;simp at b1
    ·right;rw[a1]at b1;simp only[awR]at b1;subst b1;obtain⟨c1,c2⟩:=b8 hf;have aD:=r9 b5 c2;have hl:=aD.length;rcases Nat.eq_zero_or_pos n with rfl | hn
     ·exact⟨d.b,o,c,e.sz,cs,[],by simp,by simp,c1,by simp[ba],by simp⟩
     ·have ho:=a4 (by omega);refine⟨d.b,o,c,e.sz,cs,(vs.drop (i*e.sz)).take (n*e.sz),by rw[hlen],by rw[hlen];exact a2,c1,(aD.drop i).take n,λq hq=>?_⟩;simp only[aAc,List.length_drop]at hq;rw[aw7 (by omega),List.getElem?_drop,ho,b2];exact b7 _ (by omega)
  ·exact h
 | .ptr k' i j,v,h=>by
  simp only[k6];split
  ·rename_i hc;obtain⟨rfl,aw,a8⟩:=hc;simp only[Den]at h ⊢;obtain⟨d,a1,rfl⟩:=h;rcases hW.dF k' e (aU hk)with⟨b1,_⟩ | ⟨d',cs,T,vs,b1,b2,b3,b4,b5,b6,b7,b8⟩ | ⟨d',ms,b1,b2,b3,b4⟩
   rotate_left 2
   ·obtain⟨l,hl⟩:=b4.LR _ aw;rw[hl]at a8;simp[SV.aW]at a8
   ·rw[a1]at b1;simp at b1
   ·rw[a1]at b1;simp only[awR]at b1;subst b1;obtain⟨c1,c2⟩:=b8 hf;have aD:=r9 b5 c2;have hl:=aD.length;obtain⟨u,u1,u2,u3⟩:=aD.get aw;refine⟨d.b,i*e.sz,cs,u,by rw[b2],c1,u1,λq hq=>?_⟩;rw[u2]at hq;have:=Nat.mul_le_mul_right e.sz (show i+1<=e.es.length from aw);rw[Nat.add_mul,Nat.one_mul]at this;rw[b7 _ (by omega)];exact u3 q hq
  ·exact h
theorem Hy(hW:cM C β H M w){k:Nat}{e:cJ}(hk:aA M k=some e)(hf:e.fz=true):∀{l:List SV} {vs:List Value},bN β H l vs->bN β H (j6 k e.es l) vs
 | [],vs,h=>h
 | x::l,vs,h=>by simp only[bN,j6]at h ⊢;obtain⟨v,r,rfl,h1,h2,h3⟩:=h;exact⟨v,r,rfl,Ra k e.es x h1,se hW hk hf h2,Hy hW hk hf h3⟩
theorem vL(hW:cM C β H M w){k:Nat}{e:cJ}(hk:aA M k=some e)(hf:e.fz=true):∀{l:List SV} {vs:List Value},bZ β H l vs->bZ β H (j6 k e.es l) vs
 | [],vs,h=>h
 | x::l,vs,h=>by simp only[bZ,j6]at h ⊢;obtain⟨v,r,rfl,h2,h3⟩:=h;exact⟨v,r,rfl,se hW hk hf h2,vL hW hk hf h3⟩
end
theorem Hf(hW:cM C β H M w){k:Nat}{e:cJ}(hk:aA M k=some e)(hf:e.fz=true){s:Nat}:∀{l:List SV} {vs:List Value},ba β H s l vs->ba β H s (j6 k e.es l) vs
 | [],vs,h=>h
 | x::l,vs,h=>by simp only[ba,j6]at h ⊢;obtain⟨v,r,rfl,h1,h2,h3⟩:=h;exact⟨v,r,rfl,h1,se hW hk hf h2,Hf hW hk hf h3⟩
theorem FT(hW:cM C β H M w){k:Nat}{e:cJ}(hk:aA M k=some e)(hf:e.fz=true):∀{l:List SV} {ms:List MapEntry} {n:Nat},cS β H l ms n->cS β H (j6 k e.es l) ms n
 | [],ms,n,h=>h
 | x::l,ms,n,h=>by simp only[cS,j6]at h ⊢;obtain⟨key,y,m,r,rfl,h2,h3,h4,h5,h6,h7⟩:=h;exact⟨key,k6 k e.es y,m,r,by simp only[k6,j6],h2,h3,h4,h5,se hW hk hf h6,FT hW hk hf h7⟩
def yy(k:Nat)(es:List SV)(M:aC):aC:=M.map λoe=>oe.map λe=>⟨e.sz,j6 k es e.es,e.fz⟩
def HJ(k:Nat)(es:List SV)(fr:List (Nat × SV)):List (Nat × SV):=fr.map λq=>(q.1,k6 k es q.2)
theorem cM.sb(h:cM C β H M w){k:Nat}{e:cJ}(hk:aA M k=some e)(hf:e.fz=true):cM C β H (yy k e.es M) w:=by
 have at_:∀(i:Nat) (x:cJ),(yy k e.es M)[i]?=some (some x)->∃e0:cJ,M[i]?=some (some e0)∧x=⟨e0.sz,j6 k e.es e0.es,e0.fz⟩:=λi x hi=>by
  simp only[yy,aw9]at hi;cases hm:M[i]? with
  | none=>rw[hm]at hi;cases hi
  | some oe =>
   rw[hm]at hi;cases oe with
   | none=>simp at hi
   | some e0=>simp at hi;exact⟨e0,rfl,hi.symm⟩
 refine⟨h.os,h.tape,h.output,h.size,h.frame,h.ext,h.new,h.inv,λi x hi=>?_,λi x d hi hd=>?_,λi i' e1 e2 d1 d2 hi ae af ag hb=>?_,λi hi=>h.fresh i (by simpa[yy]using hi),h.iK,h.fM⟩
 ·obtain⟨e0,ad,rfl⟩:=at_ i x hi;rcases h.dF i e0 ad with⟨h1,h2⟩ | ⟨d,cs,T,vs,h1,h2,h3,h4,h5,h6,h7,h8⟩ | ⟨d,ms,h1,h2,h3,h4⟩
  ·exact .inl ⟨h1,by simp[h2,j6]⟩
  ·refine .inr (.inl ⟨d,cs,T,vs,h1,h2,h3,h4,Hf h hk hf h5,h6,h7,λay=>?_⟩);obtain⟨g1,g2⟩:=h8 ay;exact⟨g1,by simp only;rw[dh k e.es _ g2];exact g2⟩
  ·exact .inr (.inr ⟨d,ms,h1,h2,h3,FT h hk hf h4⟩)
 ·obtain⟨e0,ad,rfl⟩:=at_ i x hi;exact h.own i e0 d ad hd
 ·obtain⟨e0,ad,rfl⟩:=at_ i e1 hi;obtain⟨au,al,rfl⟩:=at_ i' e2 ae;exact h.inj i i' e0 au d1 d2 ad al af ag hb
theorem Ko{k:Nat}{es:List SV}:∀{fr:List (Nat × SV)} {t:Nat} {x:SV},get (HJ k es fr) t=some x->∃y,get fr t=some y∧x=k6 k es y
 | [],t,x,h=>by simp[HJ]at h
 | (s,y)::r,t,x,h=>by
  simp only[HJ,aw6,get]at h ⊢;split at h
  ·rename_i e;simp only[awR]at h;exact⟨y,by rw[if_pos e],h.symm⟩
  ·rename_i e;obtain⟨z,h1,h2⟩:=Ko (fr:=r) h;exact⟨z,by rw[if_neg e];exact h1,h2⟩
def lZ(k:Nat)(st:St):St:=match aA st.M k with
 | some e=>⟨st.n,HJ k e.es st.fr,yy k e.es (aX st.M k (some ⟨e.sz,e.es,true⟩))⟩
 | none=>st
theorem Le.uO{st:St}(k:Nat){e:cJ}(hk:aA st.M k=some e)(hp:SV.bF e.es=true):Le C st (lZ k st):=by
 rintro a w ⟨β,H,hF,hW⟩;obtain⟨H',h1,h2⟩:=hW.freeze (aU hk) hp;rw[<-dL]at h2;have ah:aA (aX st.M k (some ⟨e.sz,e.es,true⟩)) k=some ⟨e.sz,e.es,true⟩:=by rw[vZ _ _ _ _ ⟨e,hk⟩,if_pos rfl]
 have aI:=hF.mono (β':=β) (H':=H') (λ_ _ h=>h) h1;unfold lZ;rw[hk];show Sc C ⟨st.n,HJ k e.es st.fr,yy k e.es (aX st.M k (some ⟨e.sz,e.es,true⟩))⟩ a w;refine⟨β,H',⟨⟨aI.1.1,aI.1.2⟩,aI.2.1,λt x hg=>?_⟩,h2.sb (e:=⟨e.sz,e.es,true⟩) ah rfl⟩;obtain⟨y,hy,rfl⟩:=Ko hg;obtain⟨v,hv,hd⟩:=aI.2.2 t y hy;exact⟨v,hv,se (e:=⟨e.sz,e.es,true⟩) h2 ah rfl hd⟩
theorem aa.uO{c:Code}{st:St}{Q:bf}(k:Nat){e:cJ}(hk:aA st.M k=some e)(hp:SV.bF e.es=true)(h:aa P C c (lZ k st) Q):aa P C c st Q:=aa.le (Le.uO k hk hp) h
def Yp(C:Ctx)(Q:bf):bf:=λe st=>∃st',Le C st st'∧Q e st'
theorem af6{C:Ctx}{Q:bf}:∀e a w,QQ C (Yp C Q) e a w->QQ C Q e a w:=λe a w ⟨st,⟨st',h1,h2⟩,h3⟩=>⟨st',h2,h1 a w h3⟩
theorem aa.wk{c:Code}{st:St}{Q:bf}(h:aa P C c st (Yp C Q)):aa P C c st Q:=λa w hs=>wp_mono (h a w hs) af6
theorem nB{f:FuncId}{fn:Func}{c:Code}{args:List SV}{Φ:SV->Prop}(hf:P.funcs[f]?=some fn)(hb:fn.body=some c)(hn:args.length<=fn.ntmps)
  (h:∀C:Ctx,C.fx=[]->vc P C c ⟨fn.ntmps,l6 0 args,[]⟩ (Yp C (kg P fn.results.toList Φ)) (Yp C (kg P fn.results.toList Φ))):qA P f args Φ :=
 jA hf hb hn λC hC=>aa.wk (oO c _ (λ_ _ h=>h) (λ_ _ h=>h) (h C hC))
@[simp] theorem aj1{k:Nat}{es:List SV}:yy k es []=[]:=rfl
@[simp] theorem acC{k:Nat}{es:List SV}{M:aC}:yy k es (none::M)=none::yy k es M:=rfl
@[simp] theorem QE{k sz:Nat}{es l:List SV}{f:Bool}{M:aC}:yy k es (some ⟨sz,l,f⟩::M)=some ⟨sz,j6 k es l,f⟩::yy k es M:=rfl
@[simp] theorem akl{k:Nat}{es:List SV}:HJ k es []=[]:=rfl
@[simp] theorem ae3{k t:Nat}{es:List SV}{x:SV}{fr:List (Nat × SV)}:HJ k es ((t,x)::fr)=(t,k6 k es x)::HJ k es fr:=rfl
@[simp] theorem ajD{k:Nat}{es:List SV}:j6 k es []=[]:=rfl
@[simp] theorem ade{k:Nat}{es l:List SV}{x:SV}:j6 k es (x::l)=k6 k es x::j6 k es l:=rfl
@[simp] theorem aay{k k' i n:Nat}{es:List SV}:k6 k es (.view k' i n)=if k'=k∧i+n<=es.length then .ro ((es.drop i).take n) else .view k' i n:=by simp only[k6]
@[simp] theorem akk{k k' i j:Nat}{es:List SV}:k6 k es (.ptr k' i j)=if k'=k∧i<es.length∧(aM es i).aW=false then .dG (aM es i) j else .ptr k' i j:=by simp only[k6]
@[simp] theorem ajL{k:Nat}{es l:List SV}:k6 k es (.agg l)=.agg (j6 k es l):=by simp only[k6]
@[simp] theorem aiy{k:Nat}{es l:List SV}:k6 k es (.bM l)=.bM (j6 k es l):=by simp only[k6]
@[simp] theorem ajS{k:Nat}{es:List SV}{v:Value}:k6 k es (.val v)=.val v:=by simp only[k6]
@[simp] theorem amJ{k:Nat}{es l:List SV}:k6 k es (.ro l)=.ro l:=by simp only[k6]
@[simp] theorem ahh{k j:Nat}{es:List SV}{x:SV}:k6 k es (.dG x j)=.dG x j:=by simp only[k6]
@[simp] theorem ahW{k t g:Nat}{es:List SV}:k6 k es (.fT t g)=.fT t g:=by simp only[k6]
@[simp] theorem ajQ{k:Nat}{es:List SV}:k6 k es .any=.any:=by simp only[k6]
@[simp] theorem anM{k k':Nat}{es:List SV}:k6 k es (.mp k')=.mp k':=by simp only[k6]
end
section
variable {P:Program} {C:Ctx} {β:cu} {H:Hp} {M:aC} {w:World}
theorem AS:∀{n:Nat} {l:List SV},SV.bF l=true->SV.bF (l.take n)=true
 | 0,l,_=>by simp[]
 | n+1,[],_=>by simp[]
 | n+1,x::l,h=>by simp only[SV.bF,List.take_succ_cons,ayt]at h ⊢;exact⟨h.1,AS h.2⟩
theorem cM.UA(h:cM C β H M w){k:Nat}{e:cJ}(hk:aA M k=some e)(hz:e.sz≠0)(n:Nat):cM C β H (aX M k (some ⟨e.sz,e.es.take n,e.fz⟩)) w:=by
 rw[dL];have ah:=aU hk;have back:∀(i:Nat) (x:cJ),(M.set k (some ⟨e.sz,e.es.take n,e.fz⟩))[i]?=some (some x)->∃e0:cJ,M[i]?=some (some e0)∧(x=e0∨(i=k∧x=⟨e.sz,e.es.take n,e.fz⟩∧e0=e)):=λi x hi=>by
  rcases getElem?_set_cases hi with⟨rfl,he,_⟩ | ⟨_,ae⟩
  ·simp only[awR]at he;exact⟨e,ah,.inr ⟨rfl,he.symm,rfl⟩⟩
  ·exact⟨x,ae,.inl rfl⟩
 refine⟨h.os,h.tape,h.output,h.size,h.frame,h.ext,h.new,h.inv,λi x hi=>?_,λi x d hi hd=>?_,λi i' e1 e2 d1 d2 hi ae af ag hb=>?_,λi hi=>h.fresh i (by simpa using hi),h.iK,h.fM⟩
 ·obtain⟨e0,ad,rfl | ⟨rfl,rfl,rfl⟩⟩:=back i x hi
  ·exact h.dF i x ad
  ·rcases h.dF i e0 ad with⟨h1,h2⟩ | ⟨d,cs,T,vs,h1,h2,h3,h4,h5,h6,h7,h8⟩ | ⟨d,ms,h1,h2,h3,h4⟩
   rotate_left 2
   ·exact absurd h2.1 hz
   ·exact .inl ⟨h1,by simp[h2]⟩
   ·refine .inr (.inl ⟨d,cs,T,vs.take (n*e0.sz),h1,h2,h3,h4,h5.take n,by simp;omega,λq hq=>?_,λhf=>⟨(h8 hf).1,AS (h8 hf).2⟩⟩);simp only[aAc]at hq;rw[aw7 (by omega)];exact h7 q (by omega)
 ·obtain⟨e0,ad,rfl | ⟨rfl,rfl,rfl⟩⟩:=back i x hi
  ·exact h.own i x d ad hd
  ·exact h.own i e0 d ad hd
 ·obtain⟨e0,ad, -⟩:=back i e1 hi;obtain⟨au,al, -⟩:=back i' e2 ae;exact h.inj i i' e0 au d1 d2 ad al af ag hb
theorem Le.UA{st:St}(k n:Nat){e:cJ}(hk:aA st.M k=some e)(hz:e.sz≠0):Le C st ⟨st.n,st.fr,aX st.M k (some ⟨e.sz,e.es.take n,e.fz⟩)⟩:=by rintro a w ⟨β,H,hF,hW⟩;exact⟨β,H,hF,hW.UA hk hz n⟩
theorem aa.bB{c:Code}{st:St}{Q:bf}{ι:Type}(I:ι->St)(Cn:ι->Prop)(μ:ι->Nat)(i0:ι)(h0:Cn i0)(hl:aP C st (I i0))
  (hr:∀i,Cn i->vc P C c (I i) (uI (λst'=>∃j,Cn j∧μ j<μ i∧Le C st' (I j)) Q) (uI (λst'=>∃j,Cn j∧μ j<μ i∧Le C st' (I j)) Q)):aa P C (.loop c) st Q:=by
 intro a w hs;refine Bb (λi a w=>Cn i∧Sc C (I i) a w) μ i0 ⟨h0,Le.dE hl a w hs⟩ ?_;rintro i a w ⟨hc,hs⟩;refine wp_mono (oO c _ (λ_ _ h=>h) (λ_ _ h=>h) (hr i hc) a w hs) ?_;rintro e a' w' ⟨st',h1,h2⟩;cases e<;>simp only[uI,Exit.then]at h1 ⊢<;>first | exact⟨st',h1,h2⟩ | skip
 obtain⟨j,g1,g2,g3⟩:=h1;exact⟨j,⟨g1,g3 a' w' h2⟩,g2⟩
theorem Le.iO{st:St}(k j s:Nat){e:cJ}{l:List SV}(hk:aA st.M k=some e)(aN:e.es=[.agg l])(ay:e.fz=false)(hj:aM l j=.val (.slice none 0 0))(aO:j<l.length) :
  Le C st ⟨st.n,st.fr,aX st.M k (some ⟨e.sz,[.agg (da l j (.view st.M.length 0 0))],false⟩)++[some ⟨s,[],false⟩]⟩:=by
 rintro a w ⟨β,H,hF,hW⟩;have ah:=aU hk;have a9:k<st.M.length:=by
  rcases axT k st.M.length with h' | h'
  ·exact h'
  ·rw[awT h']at ah;cases ah
 have ai:=hW.nil s;refine⟨β.eK st.M.length none,H,hF.mono (iN hW none) (λ_ _ h=>h),?_⟩;have aQ:∀{l:List SV} {vs:List Value} {j:Nat},bN (β.eK st.M.length none) H l vs->aM l j=.val (.slice none 0 0)->j<l.length->bN (β.eK st.M.length none) H (da l j (.view st.M.length 0 0)) vs:=by
  intro l
  induction l with
  | nil=>intro vs j _ _ hj;simp at hj
  | cons x l ih =>
   intro vs j h hj aO;simp only[bN]at h;obtain⟨v,r,rfl,h1,h2,h3⟩:=h;cases j with
   | zero =>
    simp only[aM]at hj;subst hj;simp only[da,bN];refine⟨v,r,rfl,rfl,?_,h3⟩;simp only[Den]at h2 ⊢;left;exact⟨by simp[cu.eK],trivial,trivial,h2.1⟩
   | succ j =>
    simp only[da,bN];exact⟨v,r,rfl,h1,h2,ih h3 (by simpa[aM]using hj) (by simpa using aO)⟩
 have e1:aX st.M k (some ⟨e.sz,[.agg (da l j (.view st.M.length 0 0))],false⟩)++[some (⟨s,[],false⟩:cJ)]=(st.M++[some (⟨s,[],false⟩:cJ)]).set k (some ⟨e.sz,[.agg (da l j (.view st.M.length 0 0))],false⟩):=by rw[dL,List.set_append_left _ _ a9]
 show cM C _ H (aX st.M k _++_) w;rw[e1];have aS:(st.M++[some (⟨s,[],false⟩:cJ)])[k]?=some (some e):=by rw[awO a9];exact ah
 refine⟨ai.os,ai.tape,ai.output,ai.size,ai.frame,ai.ext,ai.new,ai.inv,λi x hi=>?_,λi x d hi hd=>?_,λi i' x1 x2 d1 d2 hi ae af ag hb=>?_,λi hi=>ai.fresh i (by simpa using hi),ai.iK,ai.fM⟩
 ·rcases getElem?_set_cases hi with⟨rfl,he,_⟩ | ⟨_,ae⟩
  ·simp only[awR]at he;subst he;rcases ai.dF i e aS with⟨h1,h2⟩ | ⟨d,cs,T,vs,h1,h2,h3,h4,h5,h6,h7,h8⟩ | ⟨d,ms,h1,h2,h3,h4⟩
   rotate_left 2
   ·rw[aN]at h4;obtain⟨q,hq⟩:=h4.LR 0 (by simp);simp[aM]at hq
   ·rw[aN]at h2;cases h2
   ·refine .inr (.inl ⟨d,cs,T,vs,h1,h2,h3,h4,?_,h6,h7,λhf=>by cases hf⟩);rw[aN]at h5;simp only[ba]at h5 ⊢;obtain⟨v,r,rfl,g1,g2,g3⟩:=h5;refine⟨v,r,rfl,g1,?_,g3⟩;simp only[Den]at g2 ⊢;obtain⟨us,rfl,g4⟩:=g2;exact⟨us,rfl,aQ g4 hj aO⟩
  ·exact ai.dF i x ae
 ·rcases getElem?_set_cases hi with⟨rfl,he,_⟩ | ⟨_,ae⟩
  ·simp only[awR]at he;subst he;have:=ai.own i e d aS hd;exact⟨λ_=>this.1 ay,this.2⟩
  ·exact ai.own i x d ae hd
 ·have aux:∀(q:Nat) (x:cJ),((st.M++[some (⟨s,[],false⟩:cJ)]).set k (some ⟨e.sz,[.agg (da l j (.view st.M.length 0 0))],false⟩))[q]?=some (some x)->∃x0:cJ,(st.M++[some (⟨s,[],false⟩:cJ)])[q]?=some (some x0):=λq x hq=>by
   rcases getElem?_set_cases hq with⟨rfl,_,_⟩ | ⟨_,bj⟩
   ·exact⟨e,aS⟩
   ·exact⟨x,bj⟩
  obtain⟨y1,bk⟩:=aux i x1 hi;obtain⟨y2,bl⟩:=aux i' x2 ae;exact ai.inj i i' y1 y2 d1 d2 bk bl af ag hb
end
mutual
def ig:SV->SV
 | .val (.slice none 0 0)=>.ro []
 | .val v=>.val v
 | .agg l=>.agg (kT l)
 | .bM l=>.bM (kT l)
 | .ju t x=>.ju t (ig x)
 | x=>x
def kT:List SV->List SV
 | []=>[]
 | x::l=>ig x::kT l
end
theorem yP{v:Value}:ig (.val v)=.val v∨(v=.slice none 0 0∧ig (.val v)=.ro []):=by
 by_cases h:v=.slice none 0 0
 ·right;subst h;exact⟨rfl,rfl⟩
 ·left;unfold ig;split<;>simp_all
theorem S4(x:SV)(h:x.one=true):(ig x).one=true:=by
 cases x with
 | val v=>rcases yP (v:=v)with e | ⟨_,e⟩<;>rw[e];exact h;rfl
 | agg l=>cases h
 | bM l=>cases h
 | _=>rfl
section
variable {P:Program} {C:Ctx} {β:cu} {H:Hp} {M:aC} {w:World}
mutual
theorem sO:∀{x:SV} {v:Value},Den β H x v->Den β H (ig x) v
 | .val u,v,h=>by
  rcases yP (v:=u)with e | ⟨e1,e⟩
  ·rw[e];exact h
  ·rw[e];subst e1;simp only[Den]at h ⊢;left;exact⟨trivial,_,_,h.1⟩
 | .agg l,v,h=>by simp only[Den,ig]at h ⊢;obtain⟨vs,rfl,h⟩:=h;exact⟨vs,rfl,Hu h⟩
 | .bM l,v,h=>by simp only[Den,ig]at h ⊢;obtain⟨vs,rfl,h⟩:=h;exact⟨vs,rfl,Hx h⟩
 | .ju t x,v,h=>by simp only[Den,ig]at h ⊢;obtain⟨u,rfl,h⟩:=h;exact⟨u,rfl,sO h⟩
 | .j7 f l r,v,h=>h
 | .view _ _ _,v,h=>h
 | .ptr _ _ _,v,h=>h
 | .ro _,v,h=>h
 | .dG _ _,v,h=>h
 | .fT _ _,v,h=>h
 | .any,v,h=>h
 | .mp _,v,h=>h
theorem Hu:∀{l:List SV} {vs:List Value},bN β H l vs->bN β H (kT l) vs
 | [],vs,h=>h
 | x::l,vs,h=>by simp only[bN,kT]at h ⊢;obtain⟨v,r,rfl,h1,h2,h3⟩:=h;exact⟨v,r,rfl,S4 x h1,sO h2,Hu h3⟩
theorem Hx:∀{l:List SV} {vs:List Value},bZ β H l vs->bZ β H (kT l) vs
 | [],vs,h=>h
 | x::l,vs,h=>by simp only[bZ,kT]at h ⊢;obtain⟨v,r,rfl,h2,h3⟩:=h;exact⟨v,r,rfl,sO h2,Hx h3⟩
end
theorem HF{s:Nat}:∀{l:List SV} {vs:List Value},ba β H s l vs->ba β H s (kT l) vs
 | [],vs,h=>h
 | x::l,vs,h=>by simp only[ba,kT]at h ⊢;obtain⟨v,r,rfl,h1,h2,h3⟩:=h;exact⟨v,r,rfl,h1,sO h2,HF h3⟩
mutual
theorem FN:∀{x:SV},x.pure=true->(ig x).pure=true
 | .val u,h=>by rcases yP (v:=u)with e | ⟨e1,e⟩<;>rw[e]<;>rfl
 | .agg l,h=>by simp only[ig,SV.pure]at h ⊢;exact wa h
 | .bM l,h=>by simp only[ig,SV.pure]at h ⊢;exact wa h
 | .ju t x,h=>by simp only[ig,SV.pure]at h ⊢;exact FN h
 | .j7 f l r,h=>h
 | .view _ _ _,h=>h
 | .ptr _ _ _,h=>h
 | .ro _,h=>h
 | .dG _ _,h=>h
 | .fT _ _,h=>h
 | .any,h=>h
 | .mp _,h=>h
theorem wa:∀{l:List SV},SV.bF l=true->SV.bF (kT l)=true
 | [],h=>h
 | x::l,h=>by simp only[SV.bF,kT,ayt]at h ⊢;exact⟨FN h.1,wa h.2⟩
end
theorem Gh:∀{l:List SV} {ms:List MapEntry} {n:Nat},cS β H l ms n->(∀x∈l,∀u y,x=.bM [.val u,y]->ig (.val u)=.val u)->cS β H (kT l) ms n
 | [],ms,n,h,_=>h
 | x::l,ms,n,h,hn=>by simp only[cS,kT]at h ⊢;obtain⟨key,y,m,r,rfl,h2,h3,h4,h5,h6,h7⟩:=h;refine⟨key,ig y,m,r,by simp only[ig,kT];rw[hn (.bM [.val key,y]) (List.mem_cons_self ..) key y rfl],h2,h3,h4,h5,sO h6,Gh h7 λx hx=>hn x (by simp[hx])⟩
theorem J3:∀{l:List SV} {ms:List MapEntry} {n:Nat},cS β H l ms n->∀x∈l,∀u y,x=.bM [.val u,y]->ig (.val u)=.val u
 | [],ms,n,h,x,hx,_,_,_=>by cases hx
 | z::l,ms,n,h,x,hx,u,y,e=>by
  simp only[cS]at h;obtain⟨key,y',m,r,rfl,h2,h3,h4,h5,h6,h7⟩:=h;rcases ayn.1 hx with rfl | hx
  ·simp only[SV.bM.injEq,List.cons.injEq,SV.val.injEq]at e;obtain⟨rfl, -⟩:=e;rcases yP (v:=key)with e | ⟨e1, -⟩
   ·exact e
   ·subst e1;cases h4
  ·exact J3 h7 x hx u y e
def ry(M:aC):aC:=M.map λoe=>oe.map λe=>⟨e.sz,kT e.es,e.fz⟩
def Aa(fr:List (Nat × SV)):List (Nat × SV):=fr.map λq=>(q.1,ig q.2)
theorem cM.nl(h:cM C β H M w):cM C β H (ry M) w:=by
 have at_:∀(i:Nat) (x:cJ),(ry M)[i]?=some (some x)->∃e0:cJ,M[i]?=some (some e0)∧x=⟨e0.sz,kT e0.es,e0.fz⟩:=λi x hi=>by
  simp only[ry,aw9]at hi;cases hm:M[i]? with
  | none=>rw[hm]at hi;cases hi
  | some oe =>
   rw[hm]at hi;cases oe with
   | none=>simp at hi
   | some e0=>simp at hi;exact⟨e0,rfl,hi.symm⟩
 refine⟨h.os,h.tape,h.output,h.size,h.frame,h.ext,h.new,h.inv,λi x hi=>?_,λi x d hi hd=>?_,λi i' e1 e2 d1 d2 hi ae af ag hb=>?_,λi hi=>h.fresh i (by simpa[ry]using hi),h.iK,h.fM⟩
 ·obtain⟨e0,ad,rfl⟩:=at_ i x hi;rcases h.dF i e0 ad with⟨h1,h2⟩ | ⟨d,cs,T,vs,h1,h2,h3,h4,h5,h6,h7,h8⟩ | ⟨d,ms,h1,h2,h3,h4⟩
  ·exact .inl ⟨h1,by simp[h2,kT]⟩
  ·exact .inr (.inl ⟨d,cs,T,vs,h1,h2,h3,h4,HF h5,h6,h7,λay=>⟨(h8 ay).1,wa (h8 ay).2⟩⟩)
  ·exact .inr (.inr ⟨d,ms,h1,h2,h3,Gh h4 (J3 h4)⟩)
 ·obtain⟨e0,ad,rfl⟩:=at_ i x hi;exact h.own i e0 d ad hd
 ·obtain⟨e0,ad,rfl⟩:=at_ i e1 hi;obtain⟨au,al,rfl⟩:=at_ i' e2 ae;exact h.inj i i' e0 au d1 d2 ad al af ag hb
theorem K9:∀{fr:List (Nat × SV)} {t:Nat} {x:SV},get (Aa fr) t=some x->∃y,get fr t=some y∧x=ig y
 | [],t,x,h=>by simp[Aa]at h
 | (s,y)::r,t,x,h=>by
  simp only[Aa,aw6,get]at h ⊢;split at h
  ·rename_i e;simp only[awR]at h;exact⟨y,by rw[if_pos e],h.symm⟩
  ·rename_i e;obtain⟨z,h1,h2⟩:=K9 (fr:=r) h;exact⟨z,by rw[if_neg e];exact h1,h2⟩
def LW(st:St):St:=⟨st.n,Aa st.fr,ry st.M⟩
theorem Le.nl(st:St):Le C st (LW st):=by rintro a w ⟨β,H,hF,hW⟩;refine⟨β,H,⟨⟨hF.1.1,hF.1.2⟩,hF.2.1,λt x hg=>?_⟩,hW.nl⟩;obtain⟨y,hy,rfl⟩:=K9 hg;obtain⟨v,hv,hd⟩:=hF.2.2 t y hy;exact⟨v,hv,sO hd⟩
@[simp] theorem nM:ry []=[]:=rfl
@[simp] theorem adg{M:aC}:ry (none::M)=none::ry M:=rfl
@[simp] theorem jO{sz:Nat}{l:List SV}{f:Bool}{M:aC}:ry (some ⟨sz,l,f⟩::M)=some ⟨sz,kT l,f⟩::ry M:=rfl
@[simp] theorem agO:Aa []=[]:=rfl
@[simp] theorem aaM{t:Nat}{x:SV}{fr:List (Nat × SV)}:Aa ((t,x)::fr)=(t,ig x)::Aa fr:=rfl
@[simp] theorem ag0:kT []=[]:=rfl
@[simp] theorem acQ{l:List SV}{x:SV}:kT (x::l)=ig x::kT l:=rfl
@[simp] theorem ai3:ig (.val (.slice none 0 0))=.ro []:=rfl
@[simp] theorem ahl{k:IntKind}{n:Int}:ig (.val (.int k n))=.val (.int k n):=rfl
@[simp] theorem acK{b:Bool}:ig (.val (.bool b))=.val (.bool b):=rfl
@[simp] theorem aic{b:ByteArray}:ig (.val (.string b))=.val (.string b):=rfl
@[simp] theorem aad:ig (.val .nilIface)=.val .nilIface:=rfl
@[simp] theorem aed:ig (.val (.pointer none))=.val (.pointer none):=rfl
@[simp] theorem Kj{l:List SV}:ig (.agg l)=.agg (kT l):=by simp only[ig]
@[simp] theorem ajJ{l:List SV}:ig (.bM l)=.bM (kT l):=by simp only[ig]
@[simp] theorem ac2{k i n:Nat}:ig (.view k i n)=.view k i n:=by simp only[ig]
@[simp] theorem agY{k i n:Nat}:ig (.ptr k i n)=.ptr k i n:=by simp only[ig]
@[simp] theorem amU{l:List SV}:ig (.ro l)=.ro l:=by simp only[ig]
@[simp] theorem agA{x:SV}{j:Nat}:ig (.dG x j)=.dG x j:=by simp only[ig]
@[simp] theorem aid{t g:Nat}:ig (.fT t g)=.fT t g:=by simp only[ig]
end
end Go.Sv
namespace Go.Sv
open Go Go.RowKit
mutual
def gJ(σ:Nat->Nat):SV->SV
 | .ptr k i j=>.ptr (σ k) i j
 | .view k i n=>.view (σ k) i n
 | .mp k=>.mp (σ k)
 | .agg l=>.agg (dW σ l)
 | .bM l=>.bM (dW σ l)
 | .ju t x=>.ju t (gJ σ x)
 | .j7 f l r=>.j7 f (dW σ l) (dW σ r)
 | .val v=>.val v
 | .ro l=>.ro l
 | .dG x j=>.dG x j
 | .fT t g=>.fT t g
 | .any=>.any
def dW(σ:Nat->Nat):List SV->List SV
 | []=>[]
 | x::l=>gJ σ x::dW σ l
end
mutual
theorem AK(σ:Nat->Nat):∀x:SV,x.pure=true->gJ σ x=x
 | .ptr _ _ _,h=>by simp[SV.pure]at h
 | .view _ _ _,h=>by simp[SV.pure]at h
 | .mp _,h=>by simp[SV.pure]at h
 | .agg l,h=>by simp only[gJ];rw[iU σ l (by simpa[SV.pure]using h)]
 | .bM l,h=>by simp only[gJ];rw[iU σ l (by simpa[SV.pure]using h)]
 | .ju _ x,h=>by simp only[gJ];rw[AK σ x (by simpa[SV.pure]using h)]
 | .j7 _ l r,h=>by simp only[SV.pure,ayt]at h;simp only[gJ];rw[iU σ l h.1,iU σ r h.2]
 | .val _,_=>rfl
 | .ro _,_=>rfl
 | .dG _ _,_=>rfl
 | .fT _ _,_=>rfl
 | .any,_=>rfl
theorem iU(σ:Nat->Nat):∀l:List SV,SV.bF l=true->dW σ l=l
 | [],_=>rfl
 | x::l,h=>by simp only[SV.bF,ayt]at h;simp only[dW];rw[AK σ x h.1,iU σ l h.2]
end
mutual
theorem FC(σ:Nat->Nat):∀x:SV,(gJ σ x).pure=x.pure
 | .ptr _ _ _=>rfl
 | .view _ _ _=>rfl
 | .mp _=>rfl
 | .agg l=>by simp only[gJ,SV.pure];exact lQ σ l
 | .bM l=>by simp only[gJ,SV.pure];exact lQ σ l
 | .ju _ x=>by simp only[gJ,SV.pure];exact FC σ x
 | .j7 _ l r=>by simp only[gJ,SV.pure];rw[lQ σ l,lQ σ r]
 | .val _=>rfl
 | .ro _=>rfl
 | .dG _ _=>rfl
 | .fT _ _=>rfl
 | .any=>rfl
theorem lQ(σ:Nat->Nat):∀l:List SV,SV.bF (dW σ l)=SV.bF l
 | []=>rfl
 | x::l=>by simp only[dW,SV.bF];rw[FC σ x,lQ σ l]
end
theorem QU(σ:Nat->Nat)(x:SV):(gJ σ x).one=x.one:=by cases x<;>rfl
section
variable {β:cu} {H:Hp} {σ:Nat->Nat}
mutual
theorem lJ:∀{x:SV} {v:Value},Den β H (gJ σ x) v↔Den (λk=>β (σ k)) H x v
 | .ptr _ _ _,_=>by simp only[gJ,Den]
 | .view _ _ _,_=>by simp only[gJ,Den]
 | .mp _,_=>by simp only[gJ,Den]
 | .agg l,v=>by simp only[gJ,Den];exact exists_congr λvs=>and_congr aAg Gf
 | .bM l,v=>by simp only[gJ,Den];exact exists_congr λvs=>and_congr aAg qP
 | .ju _ x,v=>by simp only[gJ,Den];exact exists_congr λu=>and_congr aAg lJ
 | .j7 _ l r,v=>by simp only[gJ,Den];exact exists_congr λvs=>exists_congr λws=>and_congr aAg (and_congr qP qP)
 | .val _,_=>by simp only[gJ,Den]
 | .ro _,_=>by simp only[gJ,Den]
 | .dG _ _,_=>by simp only[gJ,Den]
 | .fT _ _,_=>by simp only[gJ,Den]
 | .any,_=>by simp only[gJ,Den]
theorem Gf:∀{l:List SV} {vs:List Value},bN β H (dW σ l) vs↔bN (λk=>β (σ k)) H l vs
 | [],_=>by simp only[dW,bN]
 | x::l,vs=>by simp only[dW,bN,QU];exact exists_congr λv=>exists_congr λr=>and_congr aAg (and_congr aAg (and_congr lJ Gf))
theorem qP:∀{l:List SV} {vs:List Value},bZ β H (dW σ l) vs↔bZ (λk=>β (σ k)) H l vs
 | [],_=>by simp only[dW,bZ]
 | x::l,vs=>by simp only[dW,bZ];exact exists_congr λv=>exists_congr λr=>and_congr aAg (and_congr lJ qP)
end
theorem G9{s:Nat}:∀{l:List SV} {vs:List Value},ba β H s (dW σ l) vs↔ba (λk=>β (σ k)) H s l vs
 | [],_=>by simp only[dW,ba]
 | x::l,vs=>by simp only[dW,ba];exact exists_congr λv=>exists_congr λr=>and_congr aAg (and_congr aAg (and_congr lJ G9))
theorem zV:∀{l:List SV} {ms:List MapEntry} {n:Nat},cS β H (dW σ l) ms n↔cS (λk=>β (σ k)) H l ms n
 | [],_,_=>by simp only[dW,cS]
 | x::l,ms,n=>by
  simp only[dW,cS];constructor
  ·rintro⟨key,y,m,r,e,h2,h3,h4,h5,h6,h7⟩;cases x with
   | bM q =>
    simp only[gJ,SV.bM.injEq]at e
    match q,e with
    | [a,b],e =>
     simp only[dW,List.cons.injEq,and_true]at e;obtain⟨e1,rfl⟩:=e;cases a<;>simp only[gJ,SV.val.injEq,reduceCtorEq]at e1;subst e1;exact⟨_,b,m,r,rfl,h2,h3,h4,h5,lJ.1 h6,zV.1 h7⟩
    | [],e=>simp[dW]at e
    | [a],e=>simp[dW]at e
    | a::b::c::d,e=>simp[dW]at e
   | _=>simp[gJ]at e
  ·rintro⟨key,y,m,r,rfl,h2,h3,h4,h5,h6,h7⟩;exact⟨key,gJ σ y,m,r,by simp only[gJ,dW],h2,h3,h4,h5,lJ.2 h6,zV.2 h7⟩
end
def fP(σ:Nat->Nat)(e:cJ):cJ:=⟨e.sz,dW σ e.es,e.fz⟩
theorem Nr{σ:Nat->Nat}{l:List SV}:dW σ l=[]↔l=[]:=by cases l<;>simp[dW]
theorem qn.gJ{β:cu}{H:Hp}{σ:Nat->Nat}{e:cJ}{k:Nat}{w:World}:qn β H (fP σ e) (σ k) w↔qn (λi=>β (σ i)) H e k w:=by unfold qn fP;simp only[G9,zV,lQ,Nr]
def sg:List Nat->Nat->Nat->Nat
 | [],m,i=>m+i
 | k::_,_,0=>k
 | _::s,m,i+1=>sg s m i
def qG(σ:Nat->Nat):aC->List Nat->aC->aC
 | M,k::s,e::T=>qG σ (aX M k (e.map (fP σ))) s T
 | M,_,T=>M++T.map λe=>e.map (fP σ)
def kV(σ:Nat->Nat)(M:aC):List Nat->aC->Prop
 | k::s,some e::T=>aA M k=some (fP σ e)∧kV σ M s T
 | [],[]=>True
 | _,_=>False
def P8(s:List Nat)(k:Nat):Nat->aC->Bool
 | _,[]=>true
 | i,none::M=>P8 s k (i+1) M
 | i,some e::M=>(s.contains i||!SV.aY k e.es)&&P8 s k (i+1) M
def mV:List Nat->aC->aC
 | [],M=>M
 | k::ks,M=>mV ks (HY k M)
theorem NI{s:List Nat}{m i:Nat}(h:i<s.length):∃k∈s,sg s m i=k:=by
 induction s generalizing i with
 | nil=>simp at h
 | cons a s ih=>cases i with
  | zero=>exact⟨a,by simp,rfl⟩
  | succ i =>
   obtain⟨k,h1,h2⟩:=ih (i:=i) (by simpa using h);exact⟨k,by simp[h1],h2⟩
theorem TL{s:List Nat}{m i:Nat}(h:s.length<=i):sg s m i=m+(i - s.length):=by
 induction s generalizing i with
 | nil=>simp[sg]
 | cons a s ih=>cases i with
  | zero=>simp at h
  | succ i=>simp only[sg,awV];rw[ih (by simpa using h)];congr 1;omega
theorem PS{s:List Nat}{m k:Nat}(h:k∈s):∃i,i<s.length∧sg s m i=k:=by
 induction s with
 | nil=>cases h
 | cons a s ih =>
  rcases ayn.1 h with rfl | h
  ·exact⟨0,by simp,rfl⟩
  ·obtain⟨i,h1,h2⟩:=ih h;exact⟨i+1,by simpa using h1,h2⟩
theorem Vw{s:List Nat}{m:Nat}(hd:s.Nodup)(hm:∀k∈s,k<m):∀{i j:Nat},sg s m i=sg s m j->i=j:=by
 induction s with
 | nil=>intro i j h;simp only[sg]at h;omega
 | cons a s ih =>
  have ab:=List.nodup_cons.1 hd;have key:∀i,sg s m i=a->False:=λi h=>by
   rcases axT i s.length with h' | h'
   ·obtain⟨k,h1,h2⟩:=NI (m:=m) h';rw[h2]at h;subst h;exact ab.1 h1
   ·rw[TL h']at h;have:=hm a (by simp);omega
  intro i j h;cases i with
  | zero=>cases j with
   | zero=>rfl
   | succ j=>exact(key j h.symm).elim
  | succ i=>cases j with
   | zero=>exact(key i h).elim
   | succ j=>rw[ih ab.2 (λk hk=>hm k (by simp[hk])) h]
theorem Cr{σ:Nat->Nat}:∀{s:List Nat} {T M:aC} {i:Nat} {e':cJ},s.length<=T.length->(qG σ M s T)[i]?=some (some e') ->
  (∃(k:Nat) (e:cJ),sg s M.length k=i∧T[k]?=some (some e)∧e'=fP σ e)∨((∀k,k<T.length->sg s M.length k≠i)∧M[i]?=some (some e'))
 | [],T,M,i,e',_,h=>by
  cases T with
  | nil =>
   simp only[qG,ayS,List.append_nil]at h;exact .inr ⟨λk hk=>by simp at hk,h⟩
  | cons t T =>
   simp only[qG]at h;rcases axT i M.length with hi | hi
   ·rw[awO hi]at h;exact .inr ⟨λk _=>by simp only[sg];omega,h⟩
   ·rw[List.getElem?_append_right hi,aw9]at h;left;cases ht:(t::T)[i - M.length]? with
    | none=>rw[ht]at h;cases h
    | some oe =>
     rw[ht]at h;cases oe with
     | none=>simp at h
     | some e=>simp at h;exact⟨i - M.length,e,by simp only[sg];omega,ht,h.symm⟩
 | a::s,[],M,i,e',hl,h=>by simp at hl
 | a::s,t::T,M,i,e',hl,h=>by
  simp only[qG]at h;rcases Cr (s:=s) (by simpa using hl) h with⟨k,e,h1,h2,h3⟩ | ⟨h1,h2⟩
  ·rw[uT]at h1;exact .inl ⟨k+1,e,h1,by simpa using h2,h3⟩
  ·rw[uT]at h1;rw[dL]at h2;rcases getElem?_set_cases h2 with⟨rfl,he,_⟩ | ⟨bm,ae⟩
   ·cases t with
    | none=>simp at he
    | some e=>simp at he;exact .inl ⟨0,e,rfl,by simp,he.symm⟩
   ·refine .inr ⟨λk hk=>?_,ae⟩;cases k with
    | zero=>exact Ne.symm bm
    | succ k=>exact h1 k (by simpa using hk)
theorem FZ{σ:Nat->Nat}:∀{s:List Nat} {T M:aC},s.length<=T.length->(qG σ M s T).length=M.length+(T.length - s.length)
 | [],T,M,_=>by cases T<;>simp[qG]
 | a::s,[],M,hl=>by simp at hl
 | a::s,t::T,M,hl=>by simp only[qG];rw[FZ (by simpa using hl),uT];simp
theorem wK{σ:Nat->Nat}{M:aC}:∀{s:List Nat} {T:aC} {m:Nat},kV σ M s T->s.length=T.length∧∀i,i<s.length->∃e:cJ,T[i]?=some (some e)∧aA M (sg s m i)=some (fP σ e)
 | [],[],_,_=>⟨rfl,λi hi=>by simp at hi⟩
 | k::s,some e::T,m,h=>by
  simp only[kV]at h;obtain⟨h1,h2⟩:=wK (m:=m) h.2;refine⟨by simp[h1],λi hi=>?_⟩;cases i with
  | zero=>exact⟨e,rfl,h.1⟩
  | succ i=>simpa[sg]using h2 i (by simpa using hi)
 | [],_::_,_,h=>by simp[kV]at h
 | _::_,[],_,h=>by simp[kV]at h
 | _::_,none::_,_,h=>by simp[kV]at h
theorem Jo{s:List Nat}{k:Nat}:∀{M:aC} {o i:Nat} {e:cJ},P8 s k o M=true->M[i]?=some (some e)->o+i∉s->SV.aY k e.es=false
 | [],o,i,e,_,h,_=>by simp at h
 | none::M,o,i,e,h,hi,hs=>by
  simp only[P8]at h;cases i with
  | zero=>simp at hi
  | succ i=>exact Jo h (by simpa using hi) (by rw[show o+1+i=o+(i+1) by omega];exact hs)
 | some e0::M,o,i,e,h,hi,hs=>by
  simp only[P8,ayt,Bool.or_eq_true,Bool.not_eq_true',List.contains_iff_mem]at h;cases i with
  | zero =>
   simp only[List.getElem?_cons_zero,awR]at hi;subst hi;exact h.1.resolve_left (by simpa using hs)
  | succ i=>exact Jo h.2 (by simpa using hi) (by rw[show o+1+i=o+(i+1) by omega];exact hs)
theorem So(k:Nat)(M:aC):(HY k M).length=M.length:=by unfold HY rH;split<;>simp
theorem GI:∀(ks:List Nat) (M:aC),(mV ks M).length=M.length
 | [],M=>rfl
 | k::ks,M=>by simp only[mV];rw[GI,So]
theorem cM.mV{C:Ctx}{β:cu}{H:Hp}{w:World}:∀{ks:List Nat} {M:aC},cM C β H M w->cM C β H (Sv.mV ks M) w
 | [],_,h=>h
 | k::ks,M,h=>by simp only[Sv.mV];exact cM.mV (h.HY k)
def kZ(P:Program)(f:FuncId)(args:List SV)(T:aC)(pk:List Nat)(Φ:aC->SV->Prop):Prop :=
 ∀C:Ctx,C.fx=[]->dK P C f args T none λT' aj x=>aj=pk∧∃T1 y,Φ T1 y∧x=y∧fj T' T1∧T.length<=T1.length∧(T'.length=T1.length∨(y.lt T1.length=true∧eA T1.length T1))
section
variable {P:Program} {C:Ctx}
def sY(T:aC)(pk:List Nat)(Φ:aC->SV->Prop):aC->List Nat->SV->Prop:=λT' aj x=>aj=pk∧∃T1 y,Φ T1 y∧x=y∧fj T' T1∧T.length<=T1.length∧(T'.length=T1.length∨(y.lt T1.length=true∧eA T1.length T1))
theorem gV{f:FuncId}{fn:Func}{c:Code}{args:List SV}{T:aC}{pk:List Nat}{Φ:aC->SV->Prop}(hf:P.funcs[f]?=some fn)(hb:fn.body=some c)(hn:args.length<=fn.ntmps)
  (h:∀C':Ctx,C'.fx=(ayq T.length).filter (λi=>!pk.contains i)->vc P C' c ⟨fn.ntmps,l6 0 args,T⟩ (im P fn.results.toList pk (sY T pk Φ)) (im P fn.results.toList pk (sY T pk Φ))):kZ P f args T pk Φ:=by
 intro C hC;exact ep hf hb hn pk (λi _ hi=>by rw[hC]at hi;cases hi) (λks h=>by cases h) h
def ph(β:cu)(n:Nat):cu:=λk=>if k<n then β k else none
theorem cM.afJ{β:cu}{H:Hp}{M M':aC}{w:World}(h:cM C β H M w)(hle:fj M M')(hj:M.length=M'.length∨eA M'.length M')(bn:C.fx=[]):cM C (ph β M'.length) H M' w:=by
 have aq:=ER hle;have aR:∀k e,M'[k]?=some (some e)->k<M'.length:=λk e hk=>by
  rcases axT k M'.length with h' | h'
  ·exact h'
  ·rw[awT h']at hk;cases hk
 have aw:∀(k:Nat) (e:cJ),M'[k]?=some (some e)->∀j d,SV.aY j e.es=true->β j=some d->ph β M'.length j=some d:=λk e hk j d hu hd=>by
  have:j<M'.length:=by
   rcases hj with hj | hj
   ·rcases axT j M'.length with h' | h'
    ·exact h'
    ·rw[h.fresh j (by omega)]at hd;cases hd
   ·rcases axT j M'.length with h' | h'
    ·exact h'
    ·rw[SV.me h' _ (vD hj k e hk)]at hu;cases hu
  simp[ph,this,hd]
 have hc:∀{k d},k<M'.length->ph β M'.length k=some d->β k=some d:=λhk hd=>by simpa[ph,hk]using hd
 refine⟨h.os,h.tape,h.output,h.size,h.frame,h.ext,h.new,h.inv,λk e hk=>?_,λk e d hk hd=>h.own k e d (aq k e hk) (hc (aR k e hk) hd),
  λk k' e e' d d' hk ah hd ab=>h.inj k k' e e' d d' (aq k e hk) (aq k' e' ah) (hc (aR k e hk) hd) (hc (aR k' e' ah) ab),λk hk=>by simp[ph];omega,λk d hk=>(by rw[bn]at hk;cases hk),h.fM⟩
 have hb:∀d,β k=some d->ph β M'.length k=some d:=λd hd=>by simp[ph,aR k e hk,hd]
 rcases h.dF k e (aq k e hk)with⟨g1,g2⟩ | ⟨d,cs,T,vs,g1,g2,g3,g4,g5,g6⟩ | ⟨d,ms,g1,g2,g3,g4⟩
 ·exact .inl ⟨hb _ g1,g2⟩
 ·exact .inr (.inl ⟨d,cs,T,vs,hb _ g1,g2,g3,g4,ba.mono (λ_ _ h=>h) _ _ _ (aw k e hk) g5,g6⟩)
 ·exact .inr (.inr ⟨d,ms,hb _ g1,g2,g3,cS.mono (λ_ _ h=>h) _ _ _ (aw k e hk) g4⟩)
open Classical in
theorem m5{f:FuncId}{args am:List SV}{T M:aC}{pk:List Nat}{Φ:aC->SV->Prop}{W:Option (List Nat)}{K:aC->List Nat->SV->Prop}(h:kZ P f am T pk Φ)(s:List Nat)(hd:s.Nodup)
  (hT:kV (sg s M.length) M s T) (ha:args=dW (sg s M.length) am) (bb:∀k∈pk,k<T.length∧sg s M.length k∉C.fx∧P8 s (sg s M.length k) 0 (mV (pk.map (sg s M.length)) M)=true)
  (hW:∀ks,W=some ks->pk=[]∧∀k∈s,k∈ks)
  (hK:∀T1 y,Φ T1 y->K (qG (sg s M.length) (mV (pk.map (sg s M.length)) M) s T1) (pk.map (sg s M.length)) (gJ (sg s M.length) y)):dK P C f args M W K:=by
 intro β H w aE bc ac;have hlen:s.length=T.length:=(wK (m:=0) hT).1;have hσ:=(wK (m:=M.length) hT).2;have bd:∀k∈s,k<M.length:=λk hk=>by obtain⟨i,hi,rfl⟩:=PS (m:=M.length) hk;obtain⟨e, -,h2⟩:=hσ i hi;exact(ayd.1 (aU h2)).1
 have aF:=λ{i j}=>Vw (s:=s) (m:=M.length) hd bd (i:=i) (j:=j);have hσlt:∀i,i<s.length->sg s M.length i<M.length:=λi hi=>by obtain⟨k,hk,e⟩:=NI (m:=M.length) hi;rw[e];exact bd k hk
 have aJ:∀i,s.length<=i->sg s M.length i=M.length+(i - s.length):=λi hi=>TL hi;generalize ar:sg s M.length=σ at *
 let β0:cu:=λk=>β (σ k)
 have hD:bZ β0 H am aE:=by rw[ha]at bc;exact qP.1 bc
 let X:List Nat:=(ayq s.length).filterMap λi=>match β0 i with
  | some (some d)=>some d.b
  | _=>none
 have hX:∀b,b∈X↔∃i d,i<s.length∧β (σ i)=some (some d)∧d.b=b:=λb=>by
  simp only[X,List.mem_filterMap,List.mem_range];constructor
  ·rintro⟨i,hi,he⟩;split at he
   ·rename_i d h2;simp only[awR]at he;exact⟨i,d,hi,h2,he⟩
   ·cases he
  ·rintro⟨i,d,hi,hd,rfl⟩;refine⟨i,hi,?_⟩;have:β0 i=some (some d):=hd;rw[this]
 have ax:∀b,b∈X->C.w0.heap.size<=b∨b∈C.X:=λb hb=>by obtain⟨i,d,h1,h2,rfl⟩:=(hX b).1 hb;obtain⟨e, -,h3⟩:=hσ i h1;exact(ac.own (σ i) _ d (aU h3) h2).2
 let C0:Ctx:=⟨w,H,X,β0,[]⟩
 have an:∀(k:Nat) (e:cJ),T[k]?=some (some e)->k<s.length∧aA M (σ k)=some (fP σ e):=λk e hk=>by
  have ah:k<s.length:=by have:=(ayd.1 hk).1;omega
  obtain⟨e2,h2,h3⟩:=hσ k ah;rw[hk]at h2;simp only[awR]at h2;subst h2;exact⟨ah,h3⟩
 have bo:cM C0 β0 H T w:=⟨rfl,rfl,rfl,Nat.le_refl _,λ_ _ _=>rfl,λ_ _ h=>h,λ_ _ h=>.inl h,ac.inv,
  λk e hk=>qn.gJ.1 (ac.dF (σ k) _ (aU (an k e hk).2)),
  λk e d hk hd=>⟨(ac.own (σ k) (fP σ e) d (aU (an k e hk).2) hd).1,.inr ((hX _).2 ⟨k,d,(an k e hk).1,hd,rfl⟩)⟩,
  λk k' e e' d d' hk ah hd ab hb=>aF (ac.inj (σ k) (σ k') (fP σ e) (fP σ e') d d' (aU (an k e hk).2) (aU (an k' e' ah).2) hd ab hb),
  λk hk=>ac.fresh _ (by rw[aJ k (by omega)];omega),λk d hk=>(by cases hk),ac.fM⟩
 refine Calls.mono (h C0 rfl β0 H w aE hD bo) ?_;rintro e w1 ⟨β1,H1,T',v,x,aj,rfl,g1,g2,g3,g4,⟨rfl,T1,y,hΦ,rfl,hle,be,hj⟩,g6, -⟩;have bp:T'.length=T1.length∨eA T1.length T1:=hj.imp id And.right;have aG:cM C0 (ph β1 T1.length) H1 T1 w1:=g2.afJ hle bp rfl;have av:=ac.mV (ks:=aj.map σ);have aT:∀{k d},k<s.length->β1 k=some d->ph β1 T1.length k=some d:=λ{k d} hk hd=>by
  have:k<T1.length:=by omega
  simp[ph,this,hd]
 have bq:Den (ph β1 T1.length) H1 x v:=by
  refine Den.mono (λ_ _ h=>h) x v (λk d hu hd=>?_) g1;have:k<T1.length:=by
   rcases hj with hj | ⟨hj, -⟩
   ·rcases axT k T1.length with h' | h'
    ·exact h'
    ·rw[g2.fresh k (by omega)]at hd;cases hd
   ·rcases axT k T1.length with h' | h'
    ·exact h'
    ·rw[SV.yY h' x hj]at hu;cases hu
  simp[ph,this,hd]
 let β':cu:=λi=>if hx:∃k,σ k=i then ph β1 T1.length (aAh hx) else β i
 have hβσ:∀k,β' (σ k)=ph β1 T1.length k:=λk=>by have hx:∃k',σ k'=σ k:=⟨k,rfl⟩;show(if hx:∃k',σ k'=σ k then ph β1 T1.length (aAh hx) else β (σ k))=_;rw[dif_pos hx];rw[aF (aAi hx)]
 have hβo:∀i,(∀k,σ k≠i)->β' i=β i:=λi hi=>by show(if hx:∃k',σ k'=i then ph β1 T1.length (aAh hx) else β i)=_;rw[dif_neg (λ⟨k,hk⟩=>hi k hk)]
 have hβfun:(λk=>β' (σ k))=ph β1 T1.length:=funext hβσ;have ao:∀i d,i∉aj.map σ->β i=some d->β' i=some d:=λi d hi hd=>by
  by_cases hx:∃k,σ k=i
  ·obtain⟨k,rfl⟩:=hx;rw[hβσ];have aV:k<s.length:=by
    rcases axT k s.length with h' | h'
    ·exact h'
    ·rw[ac.fresh _ (by rw[aJ k h'];omega)]at hd;cases hd
   exact aT aV (g3 k d (λhp=>hi (ayN.2 ⟨k,hp,rfl⟩)) hd)
  ·rw[hβo i λk hk=>hx ⟨k,hk⟩];exact hd
 have aZ:∀i,(∀k,k<T1.length->σ k≠i)->i<M.length->∀k,σ k≠i:=λi hi az k hk=>by
  rcases axT k T1.length with h' | h'
  ·exact hi k h' hk
  ·rw[aJ k (by omega)]at hk;omega
 have ap:∀b,b<w.heap.size->b∉X->w1.heap[b]?=w.heap[b]?:=λb hb hx=>g2.frame b hb hx;have aK:(mV (aj.map σ) M).length=M.length:=GI _ _;have ak:∀(i:Nat) (e':cJ),(qG σ (mV (aj.map σ) M) s T1)[i]?=some (some e') ->
   (∃(k:Nat) (e:cJ),σ k=i∧T1[k]?=some (some e)∧e'=fP σ e)∨((∀k,σ k≠i)∧i<M.length∧(mV (aj.map σ) M)[i]?=some (some e')):=λi e' hi=>by
  rcases Cr (by omega) hi with h1 | ⟨h1,h2⟩
  ·rw[aK,ar]at h1;exact .inl h1
  ·rw[aK,ar]at h1;have az:i<M.length:=by rw[<-aK];exact(ayd.1 h2).1
   exact .inr ⟨aZ i h1 az,az,h2⟩
 have aL:∀(i:Nat) (e':cJ) (d:Bd),(∀k,σ k≠i)->(mV (aj.map σ) M)[i]?=some (some e')->β i=some (some d)->d.b∉X:=λi e' d hi he ab hb=>by
  obtain⟨k,d2,h1,h2,h3⟩:=(hX _).1 hb;obtain⟨e2, -,h4⟩:=hσ k h1;have a0:∃e0:cJ,(mV (aj.map σ) M)[σ k]?=some (some e0):=by
   have aux:∀(ks:List Nat) (M:aC) (q:Nat),(∃e0:cJ,M[q]?=some (some e0))->∃e0:cJ,(mV ks M)[q]?=some (some e0):=λks=>by
    induction ks with
    | nil=>intro M q h;exact h
    | cons a ks ih =>
     rintro M q ⟨e0,h⟩;refine ih _ _ ?_;unfold HY;split
     ·exact⟨e0,h⟩
     ·simp only[rH,aw9,h];exact⟨_,rfl⟩
   exact aux _ _ _ ⟨_,aU h4⟩
  obtain⟨e0,a0⟩:=a0;exact hi k (av.inj (σ k) i e0 e' d2 d a0 he h2 ab h3)
 refine⟨β',H1,qG σ (mV (aj.map σ) M) s T1,v,gJ σ x,aj.map σ,rfl,lJ.2 (by rw[hβfun];exact bq),?_,ao,g4,hK T1 x hΦ,g6,λks aV=>?_⟩
 ·refine⟨g2.os.trans ac.os,g2.tape.trans ac.tape,g2.output.trans ac.output,ayr ac.size g6,λb hb hx=>?_,λb cs hb=>g4 b cs (ac.ext b cs hb),λb cs hb=>?_,g2.inv,λi e' hi=>?_,λi e' d hi ab=>?_,λi i' e1 e2 d1 d2 hi ae af ag hb=>?_,λi hi=>?_,λi d hi ab=>?_,g2.fM⟩
  ·rw[ap b (Nat.lt_of_lt_of_le hb ac.size) (λa5=>by rcases ax b a5 with h' | h';omega;exact hx h')];exact ac.frame b hb hx
  ·rcases g2.new b cs hb with h' | h' | h'
   ·exact ac.new b cs h'
   ·exact .inr (.inl (ayr ac.size h'))
   ·exact .inr (ax b h')
  ·rcases ak i e' hi with⟨k,e0,rfl,h2,rfl⟩ | ⟨h1,az,h2⟩
   ·refine qn.gJ.2 ?_;rw[hβfun];exact aG.dF k e0 h2
   ·have a6:∀d,β i=some d->β' i=some d:=λd ab=>by rw[hβo i h1];exact ab
    have bg:∀j d,SV.aY j e'.es=true->β j=some d->β' j=some d:=λj d hu ab=>by
     refine ao j d (λhp=>?_) ab;obtain⟨k,hk,rfl⟩:=ayN.1 hp;have:=Jo (bb k hk).2.2 h2 (by rw[Nat.zero_add];intro hs;obtain⟨q, -,e⟩:=PS (m:=M.length) hs;rw[ar]at e;exact h1 q e)
     rw[this]at hu;cases hu
    have bh:∀d,β i=some (some d)->w1.heap[d.b]?=w.heap[d.b]?:=λd ab=>ap _ (av.lt h2 ab) (aL i e' d h1 h2 ab);rcases av.dF i e' h2 with⟨q1,q2⟩ | ⟨d,cs,Tt,vs,q1,q2,q3,q4,q5,q6,q7,q8⟩ | ⟨d,ms,q1,q2,q3,q4⟩
    ·exact .inl ⟨a6 _ q1,q2⟩
    ·exact .inr (.inl ⟨d,cs,Tt,vs,a6 _ q1,q2,by rw[bh d q1];exact q3,q4,ba.mono g4 _ _ _ bg q5,q6,q7,λhf=>⟨g4 _ _ (q8 hf).1,(q8 hf).2⟩⟩)
    ·exact .inr (.inr ⟨d,ms,a6 _ q1,q2,by rw[bh d q1];exact q3,cS.mono g4 _ _ _ bg q4⟩)
  ·rcases ak i e' hi with⟨k,e0,rfl,h2,rfl⟩ | ⟨h1,az,h2⟩
   ·rw[hβσ]at ab;obtain⟨q1,q2⟩:=aG.own k e0 d h2 ab;refine⟨q1,?_⟩;rcases q2 with h' | h'
    ·exact .inl (ayr ac.size h')
    ·exact ax _ h'
   ·rw[hβo i h1]at ab;obtain⟨q1,q2⟩:=av.own i e' d h2 ab;refine⟨λhf=>?_,q2⟩;cases hH:H1 d.b with
    | none=>rfl
    | some cs =>
     rcases g2.new _ _ hH with h' | h' | h'
     ·have aH:H d.b=some cs:=h';rw[q1 hf]at aH;cases aH
     ·have aR:=av.lt h2 ab;have aH:w.heap.size<=d.b:=h';omega
     ·exact absurd h' (aL i e' d h1 h2 ab)
  ·rcases ak i e1 hi with⟨k,e0,rfl,h2,rfl⟩ | ⟨h1,az,h2⟩<;>rcases ak i' e2 ae with⟨k',au,rfl,aB,rfl⟩ | ⟨a7,br,aB⟩
   ·rw[hβσ]at af ag;rw[aG.inj k k' e0 au d1 d2 h2 aB af ag hb]
   ·rw[hβσ]at af;rw[hβo i' a7]at ag;exfalso;rcases(aG.own k e0 d1 h2 af).2 with h' | h'
    ·have aR:=av.lt aB ag;have aH:w.heap.size<=d1.b:=h';omega
    ·rw[hb]at h';exact aL i' e2 d2 a7 aB ag h'
   ·rw[hβσ]at ag;rw[hβo i h1]at af;exfalso;rcases(aG.own k' au d2 aB ag).2 with h' | h'
    ·have aR:=av.lt h2 af;have aH:w.heap.size<=d2.b:=h';omega
    ·rw[<-hb]at h';exact aL i e1 d1 h1 h2 af h'
   ·rw[hβo i h1]at af;rw[hβo i' a7]at ag;exact av.inj i i' e1 e2 d1 d2 h2 aB af ag hb
  ·rw[FZ (by omega),aK]at hi;have e:σ (s.length+(i - M.length))=i:=by rw[aJ _ (by omega)];omega
   have bs:¬s.length+(i - M.length)<T1.length:=by omega
   rw[<-e,hβσ];simp[ph,bs]
  ·refine ao i d (λhp=>?_) (ac.iK i d hi ab);obtain⟨k,hk,rfl⟩:=ayN.1 hp;exact(bb k hk).2.1 hi
 ·obtain⟨q1,q2⟩:=hW ks aV;subst q1;refine⟨rfl,λb hb hn=>ap b hb λa5=>?_⟩;obtain⟨k,d,h1,h2,h3⟩:=(hX _).1 a5;obtain⟨q,hq,e⟩:=NI (m:=M.length) h1;rw[ar]at e;exact hn (σ k) (by rw[e];exact q2 q hq) d h2 h3.symm
end
@[simp] theorem Z7{C:Ctx}{Q:bf}{c:List PanicEntry}{st:St}:Yp C Q (.panic c) st=∃st',Le C st st'∧Q (.panic c) st':=rfl
def isP(x:SV):Prop:=x.pure=true
@[simp] theorem ana(x:SV):isP x=(x.pure=true):=propext aAg
def UU(x:List SV):Prop:=SV.bF x=true
@[simp] theorem aj4(x:List SV):UU x=(SV.bF x=true):=propext aAg
@[simp] theorem abc{σ:Nat->Nat}{x:SV}(h:isP x):gJ σ x=x:=AK σ x h
@[simp] theorem Yu{σ:Nat->Nat}{l:List SV}(h:UU l):dW σ l=l:=iU σ l h
@[simp] theorem acv{k:Nat}{es:List SV}{x:SV}(h:isP x):k6 k es x=x:=Ai k es x h
@[simp] theorem adB{k:Nat}{es:List SV}{l:List SV}(h:UU l):j6 k es l=l:=dh k es l h
@[simp] theorem agX{k:Nat}{es a b:List SV}:j6 k es (a++b)=j6 k es a++j6 k es b:=by
 induction a with
 | nil=>simp
 | cons x a ih=>simp[ih]
@[simp] theorem aiY{k:Nat}{es l r:List SV}{f:FuncId}:k6 k es (.j7 f l r)=.j7 f (j6 k es l) (j6 k es r):=by simp only[k6]
@[simp] theorem ajF{α:Type}(f:α->SV)(l:List α):List.take l.length (l.map f)=l.map f:=List.take_of_length_le (by simp)
@[simp] theorem ajC{σ:Nat->Nat}{k i j:Nat}:gJ σ (.ptr k i j)=.ptr (σ k) i j:=by simp only[gJ]
@[simp] theorem Qa{σ:Nat->Nat}{k i n:Nat}:gJ σ (.view k i n)=.view (σ k) i n:=by simp only[gJ]
@[simp] theorem akL{σ:Nat->Nat}{k:Nat}:gJ σ (.mp k)=.mp (σ k):=by simp only[gJ]
@[simp] theorem Ew{σ:Nat->Nat}{l:List SV}:gJ σ (.agg l)=.agg (dW σ l):=by simp only[gJ]
@[simp] theorem EF{σ:Nat->Nat}{l:List SV}:gJ σ (.bM l)=.bM (dW σ l):=by simp only[gJ]
@[simp] theorem D6{σ:Nat->Nat}{t:TypeId}{x:SV}:gJ σ (.ju t x)=.ju t (gJ σ x):=by simp only[gJ]
@[simp] theorem Ev{σ:Nat->Nat}{f:FuncId}{l r:List SV}:gJ σ (.j7 f l r)=.j7 f (dW σ l) (dW σ r):=by simp only[gJ]
@[simp] theorem ahX{σ:Nat->Nat}{v:Value}:gJ σ (.val v)=.val v:=by simp only[gJ]
@[simp] theorem anL{σ:Nat->Nat}{l:List SV}:gJ σ (.ro l)=.ro l:=by simp only[gJ]
@[simp] theorem aji{σ:Nat->Nat}{x:SV}{j:Nat}:gJ σ (.dG x j)=.dG x j:=by simp only[gJ]
@[simp] theorem aiU{σ:Nat->Nat}{t g:Nat}:gJ σ (.fT t g)=.fT t g:=by simp only[gJ]
@[simp] theorem aiQ{σ:Nat->Nat}:gJ σ .any=.any:=by simp only[gJ]
@[simp] theorem Za{σ:Nat->Nat}:dW σ []=[]:=by simp only[dW]
@[simp] theorem oU{σ:Nat->Nat}{x:SV}{l:List SV}:dW σ (x::l)=gJ σ x::dW σ l:=by simp only[dW]
@[simp] theorem abR{σ:Nat->Nat}{a b:List SV}:dW σ (a++b)=dW σ a++dW σ b:=by
 induction a with
 | nil=>simp
 | cons x a ih=>simp[ih]
@[simp] theorem y5{σ:Nat->Nat}{s:Nat}{l:List SV}{f:Bool}:fP σ ⟨s,l,f⟩=⟨s,dW σ l,f⟩:=rfl
@[simp] theorem anw{m i:Nat}:sg [] m i=m+i:=rfl
@[simp] theorem ajB{k m:Nat}{s:List Nat}:sg (k::s) m 0=k:=rfl
@[simp] theorem KO{k m i:Nat}{s:List Nat}:sg (k::s) m (i+1)=sg s m i:=rfl
@[simp] theorem Mn{σ:Nat->Nat}{M T:aC}{k:Nat}{s:List Nat}{e:Option cJ}:qG σ M (k::s) (e::T)=qG σ (aX M k (e.map (fP σ))) s T:=rfl
@[simp] theorem acT{σ:Nat->Nat}{M T:aC}:qG σ M [] T=M++T.map λe=>e.map (fP σ):=by cases T<;>rfl
@[simp] theorem GX{σ:Nat->Nat}{M T:aC}{k:Nat}{s:List Nat}{e:cJ}:kV σ M (k::s) (some e::T)=(aA M k=some (fP σ e)∧kV σ M s T):=rfl
@[simp] theorem W0{σ:Nat->Nat}{M:aC}:kV σ M [] []=True:=rfl
@[simp] theorem ajq{s:List Nat}{k i:Nat}:P8 s k i []=true:=rfl
@[simp] theorem adz{s:List Nat}{k i:Nat}{M:aC}:P8 s k i (none::M)=P8 s k (i+1) M:=rfl
@[simp] theorem aeY{s:List Nat}{k i:Nat}{e:cJ}{M:aC}:P8 s k i (some e::M)=((s.contains i||!SV.aY k e.es)&&P8 s k (i+1) M):=rfl
@[simp] theorem acb{M:aC}:mV [] M=M:=rfl
@[simp] theorem XL{k:Nat}{ks:List Nat}{M:aC}:mV (k::ks) M=mV ks (HY k M):=rfl
@[simp] theorem adS{T T':aC}{pk aj:List Nat}{Φ:aC->SV->Prop}{x:SV}:sY T pk Φ T' aj x=(aj=pk∧∃T1 y,Φ T1 y∧x=y∧fj T' T1∧T.length<=T1.length∧(T'.length=T1.length∨(y.lt T1.length=true∧eA T1.length T1))):=rfl
end Go.Sv
namespace Go.Sv
open Go
section
variable {σ:Nat->Nat} {n:Nat}
mutual
theorem IT(h:∀i,i<n->σ i=i):∀x:SV,x.lt n=true->gJ σ x=x
 | .val _,_=>by simp
 | .ptr k _ _,hx=>by simp only[SV.lt,decide_eq_true_eq]at hx;simp[h k hx]
 | .view k _ _,hx=>by simp only[SV.lt,decide_eq_true_eq]at hx;simp[h k hx]
 | .ro _,_=>by simp
 | .dG _ _,_=>by simp
 | .agg l,hx=>by simp only[SV.lt]at hx;rw[Ew,kC h l hx]
 | .bM l,hx=>by simp only[SV.lt]at hx;rw[EF,kC h l hx]
 | .ju _ x,hx=>by simp only[SV.lt]at hx;rw[D6,IT h x hx]
 | .fT _ _,_=>by simp
 | .any,_=>by simp
 | .j7 _ l r,hx=>by simp only[SV.lt,ayt]at hx;rw[Ev,kC h l hx.1,kC h r hx.2]
 | .mp k,hx=>by simp only[SV.lt,decide_eq_true_eq]at hx;simp[h k hx]
theorem kC(h:∀i,i<n->σ i=i):∀l:List SV,SV.j3 n l=true->dW σ l=l
 | [],_=>by simp
 | x::l,hx=>by simp only[SV.j3,ayt]at hx;rw[oU,IT h x hx.1,kC h l hx.2]
end
end
theorem F0(m:Nat):∀(n a i:Nat),i<n->sg (aAd a n) m i=a+i
 | 0,_,_,h=>by omega
 | n+1,a,0,_=>by simp[aAe]
 | n+1,a,i+1,h=>by rw[aAe,KO,F0 m n (a+1) i (by omega)];omega
def whole(n:Nat):aC->Prop
 | []=>True
 | none::_=>False
 | some e::M=>SV.j3 n e.es=true∧whole n M
theorem RG(pre T:aC)(x:Option cJ):aA (pre++x::T) pre.length=x:=by
 induction pre with
 | nil=>rfl
 | cons y pre ih=>simpa[aA]using ih
theorem SJ(pre T:aC)(x y:Option cJ):aX (pre++x::T) pre.length y=pre++y::T:=by
 induction pre with
 | nil=>rfl
 | cons z pre ih=>simpa[aX]using ih
theorem AR{σ:Nat->Nat}{N:Nat}(h:∀i,i<N->σ i=i):∀(T pre tl:aC),whole N T->kV σ (pre++(T++tl)) (aAd pre.length T.length) T
 | [],_,_,_=>by simp
 | none::_,_,_,hw=>hw.elim
 | some e::T,pre,tl,hw=>by
  rw[awV,aAe,GX];refine⟨?_,?_⟩
  ·rw[ayb,RG];cases e;rw[y5,kC h _ hw.1]
  ·have:=AR h T (pre++[some e]) tl hw.2;simpa using this
theorem GM{σ:Nat->Nat}{N:Nat}(h:∀i,i<N->σ i=i):∀(T1 T pre tl:aC),whole N T1->T1.length=T.length->qG σ (pre++(T++tl)) (aAd pre.length T.length) T1=pre++(T1++tl)
 | [],[],pre,tl,_,_=>by simp
 | [],_::_,_,_,_,e=>by simp at e
 | _::_,[],_,_,_,e=>by simp at e
 | none::_,_::_,_,_,hw,_=>hw.elim
 | some e::T1,x::T,pre,tl,hw,hl=>by
  rw[awV,aAe,Mn,ayb,SJ];have hr:(some e).map (fP σ)=some e:=by cases e;rw[Option.map_some,y5,kC h _ hw.1]
  rw[hr];have:=GM h T1 T (pre++[some e]) tl hw.2 (by simpa using hl);simpa using this
theorem Kq{P:Program}{C:Ctx}{f:FuncId}{args:List SV}{T tl:aC}{Φ:aC->SV->Prop}{W:Option (List Nat)}{K:aC->List Nat->SV->Prop}(h:kZ P f args T [] Φ)
  (hT:whole T.length T) (ha:SV.j3 T.length args=true) (hW:∀ks,W=some ks->∀k,k<T.length->k∈ks)
  (hK:∀T1 y,Φ T1 y->whole T.length T1∧T1.length=T.length∧y.lt T.length=true∧K (T1++tl) [] y):dK P C f args (T++tl) W K:=by
 have hs:∀i,i<T.length->sg (aAd 0 T.length) (T++tl).length i=i:=λi hi=>by rw[F0 _ _ _ _ hi];omega
 refine m5 h (aAd 0 T.length) (List.nodup_range' ..) ?_ ?_ (λk hk=>by cases hk) (λks e=>⟨rfl,λk hk=>hW ks e k (by simpa using hk)⟩) (λT1 y hΦ=>?_)
 ·exact AR hs T [] tl hT
 ·rw[kC hs _ ha]
 ·obtain⟨g1,g2,g3,g4⟩:=hK T1 y hΦ;rw[ayS,IT hs y g3];have e:mV [] (T++tl)=T++tl:=rfl;rw[e];have:=GM hs T1 T [] tl g1 g2;rw[aAf,aAf,List.length_nil]at this;rw[this];exact g4
end Go.Sv

