/- A text of the prover's own. -/
import Derived.Test.YtnimjdcaajmfcaaGreatDoorBPl
open Bool renaming and_eq_true->atl
open Option.some renaming injEq->ass
open Nat renaming lt_or_ge->as2,le_trans->atj
open List renaming getElem?_map->asI,map_cons->asF,getElem?_eq_none->asu,getElem?_append_left->asp,mem_cons->atf,length_cons->asw,map_nil->atG,range->ati,getElem?_eq_some_iff->ata,mem_map->atB,range'->at1,range'_succ->at2,cons_append->as8,nil_append->at3
open Iff renaming rfl->axj
open Classical renaming choose->at4,choose_spec->at5
namespace Go.Sv
open Go Go.RowKit
mutual
def kj(k:Nat)(es:List SV):SV->SV
 | .view k' i n=>if k'=k∧i+n<=es.length then .ro ((es.drop i).take n) else .view k' i n
 | .ptr k' i j=>if k'=k∧i<es.length∧(aL es i).aV=false then .dc (aL es i) j else .ptr k' i j
 | .agg l=>.agg (nI k es l)
 | .bP l=>.bP (nI k es l)
 | .iT t x=>.iT t (kj k es x)
 | .jw f l r=>.jw f (nI k es l) (nI k es r)
 | .val v=>.val v
 | .ro l=>.ro l
 | .dc x j=>.dc x j
 | .iJ t g=>.iJ t g
 | .any=>.any
 | .mp k'=>.mp k'
def nI(k:Nat)(es:List SV):List SV->List SV
 | []=>[]
 | x::l=>kj k es x::nI k es l
end
mutual
theorem xy(k:Nat)(es:List SV):∀x:SV,x.pure=true->kj k es x=x
 | .mp _,_=>rfl
 | .view _ _ _,h=>by simp[SV.pure]at h
 | .ptr _ _ _,h=>by simp[SV.pure]at h
 | .agg l,h=>by simp only[kj];rw[jU k es l (by simpa[SV.pure]using h)]
 | .bP l,h=>by simp only[kj];rw[jU k es l (by simpa[SV.pure]using h)]
 | .iT _ x,h=>by simp only[kj];rw[xy k es x (by simpa[SV.pure]using h)]
 | .jw _ l r,h=>by simp only[SV.pure,atl]at h;simp only[kj];rw[jU k es l h.1,jU k es r h.2]
 | .val _,_=>rfl
 | .ro _,_=>rfl
 | .dc _ _,_=>rfl
 | .iJ _ _,_=>rfl
 | .any,_=>rfl
theorem jU(k:Nat)(es:List SV):∀l:List SV,SV.bJ l=true->nI k es l=l
 | [],_=>rfl
 | x::l,h=>by simp only[SV.bJ,atl]at h;simp only[nI];rw[xy k es x h.1,jU k es l h.2]
end
theorem OH(k:Nat)(es:List SV)(x:SV)(h:x.one=true):(kj k es x).one=true:=by
 cases x with
 | ptr k' i j=>simp only[kj];by_cases hc:k'=k∧i<es.length∧(aL es i).aV=false<;>simp[hc,SV.one]
 | view k' i n=>simp only[kj];by_cases hc:k'=k∧i+n<=es.length<;>simp[hc,SV.one]
 | agg l=>cases h
 | bP l=>cases h
 | val v=>exact h
 | _=>rfl
section
variable {P:Program} {C:Ctx} {β:ca} {H:Hp} {M:aD} {w:World}
mutual
theorem pU(hW:cJ C β H M w){k:Nat}{e:cz}(hk:aA M k=some e)(hf:e.fz=true):∀{x:SV} {v:Value},Den β H x v->Den β H (kj k e.es x) v
 | .val _,v,h=>h
 | .ro _,v,h=>h
 | .dc _ _,v,h=>h
 | .iJ _ _,v,h=>h
 | .any,v,h=>h
 | .mp _,v,h=>h
 | .agg l,v,h=>by simp only[Den,kj]at h ⊢;obtain⟨vs,rfl,h⟩:=h;exact⟨vs,rfl,Fh hW hk hf h⟩
 | .bP l,v,h=>by simp only[Den,kj]at h ⊢;obtain⟨vs,rfl,h⟩:=h;exact⟨vs,rfl,sZ hW hk hf h⟩
 | .iT t x,v,h=>by simp only[Den,kj]at h ⊢;obtain⟨u,rfl,h⟩:=h;exact⟨u,rfl,pU hW hk hf h⟩
 | .jw f l r,v,h=>by simp only[Den,kj]at h ⊢;obtain⟨vs,ws,rfl,h1,h2⟩:=h;exact⟨vs,ws,rfl,sZ hW hk hf h1,sZ hW hk hf h2⟩
 | .view k' i n,v,h=>by
  simp only[kj];split
  ·rename_i hc;obtain⟨rfl,au⟩:=hc;have hlen:((e.es.drop i).take n).length=n:=by simp;omega
   simp only[Den]at h ⊢;rcases h with⟨a1,rfl,rfl,rfl⟩ | ⟨d,c,o,a1,a2,a3,a4,rfl⟩
   ·left;exact⟨by simp,_,_,rfl⟩
   ·rcases hW.dt k' e (aT hk)with⟨b1,_⟩ | ⟨d',cs,T,vs,b1,b2,b3,b4,b5,b6,b7,b8⟩ | ⟨d',ms,b1,b2,b3,b4⟩
    rotate_left 2
    ·rw[a1]at b1;simp only[ass]at b1;subst b1;rw[b2.2.1,b2.2.2]at a3;have bi:n=0:=by omega
     subst bi;left;exact⟨by simp,_,_,rfl⟩
    ·rw[a1]at b1;simp at b1
    ·right;rw[a1]at b1;simp only[ass]at b1;subst b1;obtain⟨c1,c2⟩:=b8 hf;have aC:=qU b5 c2;have hl:=aC.length;rcases Nat.eq_zero_or_pos n with rfl | hn
     ·exact⟨d.b,o,c,e.sz,cs,[],by simp,by simp,c1,by simp[aW],by simp⟩
     ·have ho:=a4 (by omega);refine⟨d.b,o,c,e.sz,cs,(vs.drop (i*e.sz)).take (n*e.sz),by rw[hlen],by rw[hlen];exact a2,c1,(aC.drop i).take n,λq hq=>?_⟩;simp only[List.length_take,List.length_drop]at hq;rw[List.getElem?_take_of_lt (by omega),List.getElem?_drop,ho,b2];exact b7 _ (by omega)
  ·exact h
 | .ptr k' i j,v,h=>by
  simp only[kj];split
  ·rename_i hc;obtain⟨rfl,au,a9⟩:=hc;simp only[Den]at h ⊢;obtain⟨d,a1,rfl⟩:=h;rcases hW.dt k' e (aT hk)with⟨b1,_⟩ | ⟨d',cs,T,vs,b1,b2,b3,b4,b5,b6,b7,b8⟩ | ⟨d',ms,b1,b2,b3,b4⟩
   rotate_left 2
   ·obtain⟨l,hl⟩:=b4.Jf _ au;rw[hl]at a9;simp[SV.aV]at a9
   ·rw[a1]at b1;simp at b1
   ·rw[a1]at b1;simp only[ass]at b1;subst b1;obtain⟨c1,c2⟩:=b8 hf;have aC:=qU b5 c2;have hl:=aC.length;obtain⟨u,u1,u2,u3⟩:=aC.get au;refine⟨d.b,i*e.sz,cs,u,by rw[b2],c1,u1,λq hq=>?_⟩;rw[u2]at hq;have:=Nat.mul_le_mul_right e.sz (show i+1<=e.es.length from au);rw[Nat.add_mul,Nat.one_mul]at this;rw[b7 _ (by omega)];exact u3 q hq
  ·exact h
theorem Fh(hW:cJ C β H M w){k:Nat}{e:cz}(hk:aA M k=some e)(hf:e.fz=true):∀{l:List SV} {vs:List Value},bE β H l vs->bE β H (nI k e.es l) vs
 | [],vs,h=>h
 | x::l,vs,h=>by simp only[bE,nI]at h ⊢;obtain⟨v,r,rfl,h1,h2,h3⟩:=h;exact⟨v,r,rfl,OH k e.es x h1,pU hW hk hf h2,Fh hW hk hf h3⟩
theorem sZ(hW:cJ C β H M w){k:Nat}{e:cz}(hk:aA M k=some e)(hf:e.fz=true):∀{l:List SV} {vs:List Value},bY β H l vs->bY β H (nI k e.es l) vs
 | [],vs,h=>h
 | x::l,vs,h=>by simp only[bY,nI]at h ⊢;obtain⟨v,r,rfl,h2,h3⟩:=h;exact⟨v,r,rfl,pU hW hk hf h2,sZ hW hk hf h3⟩
end
theorem Et(hW:cJ C β H M w){k:Nat}{e:cz}(hk:aA M k=some e)(hf:e.fz=true){s:Nat}:∀{l:List SV} {vs:List Value},aW β H s l vs->aW β H s (nI k e.es l) vs
 | [],vs,h=>h
 | x::l,vs,h=>by simp only[aW,nI]at h ⊢;obtain⟨v,r,rfl,h1,h2,h3⟩:=h;exact⟨v,r,rfl,h1,pU hW hk hf h2,Et hW hk hf h3⟩
theorem Ew(hW:cJ C β H M w){k:Nat}{e:cz}(hk:aA M k=some e)(hf:e.fz=true):∀{l:List SV} {ms:List MapEntry} {n:Nat},cN β H l ms n->cN β H (nI k e.es l) ms n
 | [],ms,n,h=>h
 | x::l,ms,n,h=>by simp only[cN,nI]at h ⊢;obtain⟨key,y,m,r,rfl,h2,h3,h4,h5,h6,h7⟩:=h;exact⟨key,kj k e.es y,m,r,by simp only[kj,nI],h2,h3,h4,h5,pU hW hk hf h6,Ew hW hk hf h7⟩
def wg(k:Nat)(es:List SV)(M:aD):aD:=M.map λoe=>oe.map λe=>⟨e.sz,nI k es e.es,e.fz⟩
def Fy(k:Nat)(es:List SV)(fr:List (Nat × SV)):List (Nat × SV):=fr.map λq=>(q.1,kj k es q.2)
theorem cJ.sb(h:cJ C β H M w){k:Nat}{e:cz}(hk:aA M k=some e)(hf:e.fz=true):cJ C β H (wg k e.es M) w:=by
 have at_:∀(i:Nat) (x:cz),(wg k e.es M)[i]?=some (some x)->∃e0:cz,M[i]?=some (some e0)∧x=⟨e0.sz,nI k e.es e0.es,e0.fz⟩:=λi x hi=>by
  simp only[wg,asI]at hi;cases hm:M[i]? with
  | none=>rw[hm]at hi;cases hi
  | some oe =>
   rw[hm]at hi;cases oe with
   | none=>simp at hi
   | some e0=>simp at hi;exact⟨e0,rfl,hi.symm⟩
 refine⟨h.os,h.tape,h.output,h.size,h.frame,h.ext,h.new,h.inv,λi x hi=>?_,λi x d hi hd=>?_,λi i' e1 e2 d1 d2 hi aj af ag hb=>?_,λi hi=>h.fresh i (by simpa[wg]using hi),h.im,h.fT⟩
 ·obtain⟨e0,ak,rfl⟩:=at_ i x hi;rcases h.dt i e0 ak with⟨h1,h2⟩ | ⟨d,cs,T,vs,h1,h2,h3,h4,h5,h6,h7,h8⟩ | ⟨d,ms,h1,h2,h3,h4⟩
  ·exact .inl ⟨h1,by simp[h2,nI]⟩
  ·refine .inr (.inl ⟨d,cs,T,vs,h1,h2,h3,h4,Et h hk hf h5,h6,h7,λax=>?_⟩);obtain⟨g1,g2⟩:=h8 ax;exact⟨g1,by simp only;rw[jU k e.es _ g2];exact g2⟩
  ·exact .inr (.inr ⟨d,ms,h1,h2,h3,Ew h hk hf h4⟩)
 ·obtain⟨e0,ak,rfl⟩:=at_ i x hi;exact h.own i e0 d ak hd
 ·obtain⟨e0,ak,rfl⟩:=at_ i e1 hi;obtain⟨ay,av,rfl⟩:=at_ i' e2 aj;exact h.inj i i' e0 ay d1 d2 ak av af ag hb
theorem HN{k:Nat}{es:List SV}:∀{fr:List (Nat × SV)} {t:Nat} {x:SV},get (Fy k es fr) t=some x->∃y,get fr t=some y∧x=kj k es y
 | [],t,x,h=>by simp[Fy]at h
 | (s,y)::r,t,x,h=>by
  simp only[Fy,asF,get]at h ⊢;split at h
  ·rename_i e;simp only[ass]at h;exact⟨y,by rw[if_pos e],h.symm⟩
  ·rename_i e;obtain⟨z,h1,h2⟩:=HN (fr:=r) h;exact⟨z,by rw[if_neg e];exact h1,h2⟩
def rm(k:Nat)(st:St):St:=match aA st.M k with
 | some e=>⟨st.n,Fy k e.es st.fr,wg k e.es (aX st.M k (some ⟨e.sz,e.es,true⟩))⟩
 | none=>st
theorem Le.CE{st:St}(k:Nat){e:cz}(hk:aA st.M k=some e)(hp:SV.bJ e.es=true):Le C st (rm k st):=by
 rintro a w ⟨β,H,hF,hW⟩;obtain⟨H',h1,h2⟩:=hW.freeze (aT hk) hp;rw[<-dI]at h2;have ah:aA (aX st.M k (some ⟨e.sz,e.es,true⟩)) k=some ⟨e.sz,e.es,true⟩:=by rw[sC _ _ _ _ ⟨e,hk⟩,if_pos rfl]
 have aI:=hF.mono (β':=β) (H':=H') (λ_ _ h=>h) h1;unfold rm;rw[hk];show OY C ⟨st.n,Fy k e.es st.fr,wg k e.es (aX st.M k (some ⟨e.sz,e.es,true⟩))⟩ a w;refine⟨β,H',⟨⟨aI.1.1,aI.1.2⟩,aI.2.1,λt x hg=>?_⟩,h2.sb (e:=⟨e.sz,e.es,true⟩) ah rfl⟩;obtain⟨y,hy,rfl⟩:=HN hg;obtain⟨v,hv,hd⟩:=aI.2.2 t y hy;exact⟨v,hv,pU (e:=⟨e.sz,e.es,true⟩) h2 ah rfl hd⟩
theorem aa.CE{c:Code}{st:St}{Q:bf}(k:Nat){e:cz}(hk:aA st.M k=some e)(hp:SV.bJ e.es=true)(h:aa P C c (rm k st) Q):aa P C c st Q:=aa.le (Le.CE k hk hp) h
def WS(C:Ctx)(Q:bf):bf:=λe st=>∃st',Le C st st'∧Q e st'
theorem aat{C:Ctx}{Q:bf}:∀e a w,QQ C (WS C Q) e a w->QQ C Q e a w:=λe a w ⟨st,⟨st',h1,h2⟩,h3⟩=>⟨st',h2,h1 a w h3⟩
theorem aa.wk{c:Code}{st:St}{Q:bf}(h:aa P C c st (WS C Q)):aa P C c st Q:=λa w hs=>wp_mono (h a w hs) aat
theorem pR{f:FuncId}{fn:Func}{c:Code}{args:List SV}{Φ:SV->Prop}(hf:P.funcs[f]?=some fn)(hb:fn.body=some c)(hn:args.length<=fn.ntmps)
  (h:∀C:Ctx,C.fx=[]->vc P C c ⟨fn.ntmps,mh 0 args,[]⟩ (WS C (lZ P fn.results.toList Φ)) (WS C (lZ P fn.results.toList Φ))):rC P f args Φ :=
 jT hf hb hn λC hC=>aa.wk (mO c _ (λ_ _ h=>h) (λ_ _ h=>h) (h C hC))
@[simp] theorem adr{k:Nat}{es:List SV}:wg k es []=[]:=rfl
@[simp] theorem aaj{k:Nat}{es:List SV}{M:aD}:wg k es (none::M)=none::wg k es M:=rfl
@[simp] theorem L1{k sz:Nat}{es l:List SV}{f:Bool}{M:aD}:wg k es (some ⟨sz,l,f⟩::M)=some ⟨sz,nI k es l,f⟩::wg k es M:=rfl
@[simp] theorem aeE{k:Nat}{es:List SV}:Fy k es []=[]:=rfl
@[simp] theorem ZO{k t:Nat}{es:List SV}{x:SV}{fr:List (Nat × SV)}:Fy k es ((t,x)::fr)=(t,kj k es x)::Fy k es fr:=rfl
@[simp] theorem ady{k:Nat}{es:List SV}:nI k es []=[]:=rfl
@[simp] theorem Yd{k:Nat}{es l:List SV}{x:SV}:nI k es (x::l)=kj k es x::nI k es l:=rfl
@[simp] theorem YE{k k' i n:Nat}{es:List SV}:kj k es (.view k' i n)=if k'=k∧i+n<=es.length then .ro ((es.drop i).take n) else .view k' i n:=by simp only[kj]
@[simp] theorem adL{k k' i j:Nat}{es:List SV}:kj k es (.ptr k' i j)=if k'=k∧i<es.length∧(aL es i).aV=false then .dc (aL es i) j else .ptr k' i j:=by simp only[kj]
@[simp] theorem aga{k:Nat}{es l:List SV}:kj k es (.agg l)=.agg (nI k es l):=by simp only[kj]
@[simp] theorem adO{k:Nat}{es l:List SV}:kj k es (.bP l)=.bP (nI k es l):=by simp only[kj]
@[simp] theorem afd{k:Nat}{es:List SV}{v:Value}:kj k es (.val v)=.val v:=by simp only[kj]
@[simp] theorem aiY{k:Nat}{es l:List SV}:kj k es (.ro l)=.ro l:=by simp only[kj]
@[simp] theorem ad3{k j:Nat}{es:List SV}{x:SV}:kj k es (.dc x j)=.dc x j:=by simp only[kj]
@[simp] theorem aeB{k t g:Nat}{es:List SV}:kj k es (.iJ t g)=.iJ t g:=by simp only[kj]
@[simp] theorem ag2{k:Nat}{es:List SV}:kj k es .any=.any:=by simp only[kj]
@[simp] theorem akc{k k':Nat}{es:List SV}:kj k es (.mp k')=.mp k':=by simp only[kj]
end
section
variable {P:Program} {C:Ctx} {β:ca} {H:Hp} {M:aD} {w:World}
theorem aa.bM{c:Code}{st:St}{Q:bf}{ι:Type}(I:ι->St)(Cn:ι->Prop)(μ:ι->Nat)(i0:ι)(h0:Cn i0)(hl:aR C st (I i0))
  (hr:∀i,Cn i->vc P C c (I i) (sY (λst'=>∃j,Cn j∧μ j<μ i∧Le C st' (I j)) Q) (sY (λst'=>∃j,Cn j∧μ j<μ i∧Le C st' (I j)) Q)):aa P C (.loop c) st Q:=by
 intro a w hs;refine zA (λi a w=>Cn i∧OY C (I i) a w) μ i0 ⟨h0,Le.fm hl a w hs⟩ ?_;rintro i a w ⟨hc,hs⟩;refine wp_mono (mO c _ (λ_ _ h=>h) (λ_ _ h=>h) (hr i hc) a w hs) ?_;rintro e a' w' ⟨st',h1,h2⟩;cases e<;>simp only[sY,Exit.then]at h1 ⊢<;>first | exact⟨st',h1,h2⟩ | skip
 obtain⟨j,g1,g2,g3⟩:=h1;exact⟨j,⟨g1,g3 a' w' h2⟩,g2⟩
theorem Le.iY{st:St}(k j s:Nat){e:cz}{l:List SV}(hk:aA st.M k=some e)(aN:e.es=[.agg l])(ax:e.fz=false)(hj:aL l j=.val (.slice none 0 0))(aO:j<l.length) :
  Le C st ⟨st.n,st.fr,aX st.M k (some ⟨e.sz,[.agg (cZ l j (.view st.M.length 0 0))],false⟩)++[some ⟨s,[],false⟩]⟩:=by
 rintro a w ⟨β,H,hF,hW⟩;have ah:=aT hk;have ba:k<st.M.length:=by
  rcases as2 k st.M.length with h' | h'
  ·exact h'
  ·rw[asu h']at ah;cases ah
 have ad:=hW.nil s;refine⟨β.ef st.M.length none,H,hF.mono (ik hW none) (λ_ _ h=>h),?_⟩;have aQ:∀{l:List SV} {vs:List Value} {j:Nat},bE (β.ef st.M.length none) H l vs->aL l j=.val (.slice none 0 0)->j<l.length->bE (β.ef st.M.length none) H (cZ l j (.view st.M.length 0 0)) vs:=by
  intro l
  induction l with
  | nil=>intro vs j _ _ hj;simp at hj
  | cons x l ih =>
   intro vs j h hj aO;simp only[bE]at h;obtain⟨v,r,rfl,h1,h2,h3⟩:=h;cases j with
   | zero =>
    simp only[aL]at hj;subst hj;simp only[cZ,bE];refine⟨v,r,rfl,rfl,?_,h3⟩;simp only[Den]at h2 ⊢;left;exact⟨by simp[ca.ef],trivial,trivial,h2.1⟩
   | succ j =>
    simp only[cZ,bE];exact⟨v,r,rfl,h1,h2,ih h3 (by simpa[aL]using hj) (by simpa using aO)⟩
 have e1:aX st.M k (some ⟨e.sz,[.agg (cZ l j (.view st.M.length 0 0))],false⟩)++[some (⟨s,[],false⟩:cz)]=(st.M++[some (⟨s,[],false⟩:cz)]).set k (some ⟨e.sz,[.agg (cZ l j (.view st.M.length 0 0))],false⟩):=by rw[dI,List.set_append_left _ _ ba]
 show cJ C _ H (aX st.M k _++_) w;rw[e1];have aS:(st.M++[some (⟨s,[],false⟩:cz)])[k]?=some (some e):=by rw[asp ba];exact ah
 refine⟨ad.os,ad.tape,ad.output,ad.size,ad.frame,ad.ext,ad.new,ad.inv,λi x hi=>?_,λi x d hi hd=>?_,λi i' x1 x2 d1 d2 hi aj af ag hb=>?_,λi hi=>ad.fresh i (by simpa using hi),ad.im,ad.fT⟩
 ·rcases getElem?_set_cases hi with⟨rfl,he,_⟩ | ⟨_,aj⟩
  ·simp only[ass]at he;subst he;rcases ad.dt i e aS with⟨h1,h2⟩ | ⟨d,cs,T,vs,h1,h2,h3,h4,h5,h6,h7,h8⟩ | ⟨d,ms,h1,h2,h3,h4⟩
   rotate_left 2
   ·rw[aN]at h4;obtain⟨q,hq⟩:=h4.Jf 0 (by simp);simp[aL]at hq
   ·rw[aN]at h2;cases h2
   ·refine .inr (.inl ⟨d,cs,T,vs,h1,h2,h3,h4,?_,h6,h7,λhf=>by cases hf⟩);rw[aN]at h5;simp only[aW]at h5 ⊢;obtain⟨v,r,rfl,g1,g2,g3⟩:=h5;refine⟨v,r,rfl,g1,?_,g3⟩;simp only[Den]at g2 ⊢;obtain⟨us,rfl,g4⟩:=g2;exact⟨us,rfl,aQ g4 hj aO⟩
  ·exact ad.dt i x aj
 ·rcases getElem?_set_cases hi with⟨rfl,he,_⟩ | ⟨_,aj⟩
  ·simp only[ass]at he;subst he;have:=ad.own i e d aS hd;exact⟨λ_=>this.1 ax,this.2⟩
  ·exact ad.own i x d aj hd
 ·have aux:∀(q:Nat) (x:cz),((st.M++[some (⟨s,[],false⟩:cz)]).set k (some ⟨e.sz,[.agg (cZ l j (.view st.M.length 0 0))],false⟩))[q]?=some (some x)->∃x0:cz,(st.M++[some (⟨s,[],false⟩:cz)])[q]?=some (some x0):=λq x hq=>by
   rcases getElem?_set_cases hq with⟨rfl,_,_⟩ | ⟨_,bj⟩
   ·exact⟨e,aS⟩
   ·exact⟨x,bj⟩
  obtain⟨y1,bk⟩:=aux i x1 hi;obtain⟨y2,bl⟩:=aux i' x2 aj;exact ad.inj i i' y1 y2 d1 d2 bk bl af ag hb
end
mutual
def iq:SV->SV
 | .val (.slice none 0 0)=>.ro []
 | .val v=>.val v
 | .agg l=>.agg (lW l)
 | .bP l=>.bP (lW l)
 | .iT t x=>.iT t (iq x)
 | x=>x
def lW:List SV->List SV
 | []=>[]
 | x::l=>iq x::lW l
end
theorem wI{v:Value}:iq (.val v)=.val v∨(v=.slice none 0 0∧iq (.val v)=.ro []):=by
 by_cases h:v=.slice none 0 0
 ·right;subst h;exact⟨rfl,rfl⟩
 ·left;unfold iq;split<;>simp_all
theorem PY(x:SV)(h:x.one=true):(iq x).one=true:=by
 cases x with
 | val v=>rcases wI (v:=v)with e | ⟨_,e⟩<;>rw[e];exact h;rfl
 | agg l=>cases h
 | bP l=>cases h
 | _=>rfl
section
variable {P:Program} {C:Ctx} {β:ca} {H:Hp} {M:aD} {w:World}
mutual
theorem p8:∀{x:SV} {v:Value},Den β H x v->Den β H (iq x) v
 | .val u,v,h=>by
  rcases wI (v:=u)with e | ⟨e1,e⟩
  ·rw[e];exact h
  ·rw[e];subst e1;simp only[Den]at h ⊢;left;exact⟨trivial,_,_,h.1⟩
 | .agg l,v,h=>by simp only[Den,iq]at h ⊢;obtain⟨vs,rfl,h⟩:=h;exact⟨vs,rfl,D3 h⟩
 | .bP l,v,h=>by simp only[Den,iq]at h ⊢;obtain⟨vs,rfl,h⟩:=h;exact⟨vs,rfl,Dm h⟩
 | .iT t x,v,h=>by simp only[Den,iq]at h ⊢;obtain⟨u,rfl,h⟩:=h;exact⟨u,rfl,p8 h⟩
 | .jw f l r,v,h=>h
 | .view _ _ _,v,h=>h
 | .ptr _ _ _,v,h=>h
 | .ro _,v,h=>h
 | .dc _ _,v,h=>h
 | .iJ _ _,v,h=>h
 | .any,v,h=>h
 | .mp _,v,h=>h
theorem D3:∀{l:List SV} {vs:List Value},bE β H l vs->bE β H (lW l) vs
 | [],vs,h=>h
 | x::l,vs,h=>by simp only[bE,lW]at h ⊢;obtain⟨v,r,rfl,h1,h2,h3⟩:=h;exact⟨v,r,rfl,PY x h1,p8 h2,D3 h3⟩
theorem Dm:∀{l:List SV} {vs:List Value},bY β H l vs->bY β H (lW l) vs
 | [],vs,h=>h
 | x::l,vs,h=>by simp only[bY,lW]at h ⊢;obtain⟨v,r,rfl,h2,h3⟩:=h;exact⟨v,r,rfl,p8 h2,Dm h3⟩
end
theorem Es{s:Nat}:∀{l:List SV} {vs:List Value},aW β H s l vs->aW β H s (lW l) vs
 | [],vs,h=>h
 | x::l,vs,h=>by simp only[aW,lW]at h ⊢;obtain⟨v,r,rfl,h1,h2,h3⟩:=h;exact⟨v,r,rfl,h1,p8 h2,Es h3⟩
mutual
theorem EV:∀{x:SV},x.pure=true->(iq x).pure=true
 | .val u,h=>by rcases wI (v:=u)with e | ⟨e1,e⟩<;>rw[e]<;>rfl
 | .agg l,h=>by simp only[iq,SV.pure]at h ⊢;exact tR h
 | .bP l,h=>by simp only[iq,SV.pure]at h ⊢;exact tR h
 | .iT t x,h=>by simp only[iq,SV.pure]at h ⊢;exact EV h
 | .jw f l r,h=>h
 | .view _ _ _,h=>h
 | .ptr _ _ _,h=>h
 | .ro _,h=>h
 | .dc _ _,h=>h
 | .iJ _ _,h=>h
 | .any,h=>h
 | .mp _,h=>h
theorem tR:∀{l:List SV},SV.bJ l=true->SV.bJ (lW l)=true
 | [],h=>h
 | x::l,h=>by simp only[SV.bJ,lW,atl]at h ⊢;exact⟨EV h.1,tR h.2⟩
end
theorem El:∀{l:List SV} {ms:List MapEntry} {n:Nat},cN β H l ms n->(∀x∈l,∀u y,x=.bP [.val u,y]->iq (.val u)=.val u)->cN β H (lW l) ms n
 | [],ms,n,h,_=>h
 | x::l,ms,n,h,hn=>by simp only[cN,lW]at h ⊢;obtain⟨key,y,m,r,rfl,h2,h3,h4,h5,h6,h7⟩:=h;refine⟨key,iq y,m,r,by simp only[iq,lW];rw[hn (.bP [.val key,y]) (List.mem_cons_self ..) key y rfl],h2,h3,h4,h5,p8 h6,El h7 λx hx=>hn x (by simp[hx])⟩
theorem Hl:∀{l:List SV} {ms:List MapEntry} {n:Nat},cN β H l ms n->∀x∈l,∀u y,x=.bP [.val u,y]->iq (.val u)=.val u
 | [],ms,n,h,x,hx,_,_,_=>by cases hx
 | z::l,ms,n,h,x,hx,u,y,e=>by
  simp only[cN]at h;obtain⟨key,y',m,r,rfl,h2,h3,h4,h5,h6,h7⟩:=h;rcases atf.1 hx with rfl | hx
  ·simp only[SV.bP.injEq,List.cons.injEq,SV.val.injEq]at e;obtain⟨rfl, -⟩:=e;rcases wI (v:=key)with e | ⟨e1, -⟩
   ·exact e
   ·subst e1;cases h4
  ·exact Hl h7 x hx u y e
def rv(M:aD):aD:=M.map λoe=>oe.map λe=>⟨e.sz,lW e.es,e.fz⟩
def zI(fr:List (Nat × SV)):List (Nat × SV):=fr.map λq=>(q.1,iq q.2)
theorem cJ.nl(h:cJ C β H M w):cJ C β H (rv M) w:=by
 have at_:∀(i:Nat) (x:cz),(rv M)[i]?=some (some x)->∃e0:cz,M[i]?=some (some e0)∧x=⟨e0.sz,lW e0.es,e0.fz⟩:=λi x hi=>by
  simp only[rv,asI]at hi;cases hm:M[i]? with
  | none=>rw[hm]at hi;cases hi
  | some oe =>
   rw[hm]at hi;cases oe with
   | none=>simp at hi
   | some e0=>simp at hi;exact⟨e0,rfl,hi.symm⟩
 refine⟨h.os,h.tape,h.output,h.size,h.frame,h.ext,h.new,h.inv,λi x hi=>?_,λi x d hi hd=>?_,λi i' e1 e2 d1 d2 hi aj af ag hb=>?_,λi hi=>h.fresh i (by simpa[rv]using hi),h.im,h.fT⟩
 ·obtain⟨e0,ak,rfl⟩:=at_ i x hi;rcases h.dt i e0 ak with⟨h1,h2⟩ | ⟨d,cs,T,vs,h1,h2,h3,h4,h5,h6,h7,h8⟩ | ⟨d,ms,h1,h2,h3,h4⟩
  ·exact .inl ⟨h1,by simp[h2,lW]⟩
  ·exact .inr (.inl ⟨d,cs,T,vs,h1,h2,h3,h4,Es h5,h6,h7,λax=>⟨(h8 ax).1,tR (h8 ax).2⟩⟩)
  ·exact .inr (.inr ⟨d,ms,h1,h2,h3,El h4 (Hl h4)⟩)
 ·obtain⟨e0,ak,rfl⟩:=at_ i x hi;exact h.own i e0 d ak hd
 ·obtain⟨e0,ak,rfl⟩:=at_ i e1 hi;obtain⟨ay,av,rfl⟩:=at_ i' e2 aj;exact h.inj i i' e0 ay d1 d2 ak av af ag hb
theorem Ii:∀{fr:List (Nat × SV)} {t:Nat} {x:SV},get (zI fr) t=some x->∃y,get fr t=some y∧x=iq y
 | [],t,x,h=>by simp[zI]at h
 | (s,y)::r,t,x,h=>by
  simp only[zI,asF,get]at h ⊢;split at h
  ·rename_i e;simp only[ass]at h;exact⟨y,by rw[if_pos e],h.symm⟩
  ·rename_i e;obtain⟨z,h1,h2⟩:=Ii (fr:=r) h;exact⟨z,by rw[if_neg e];exact h1,h2⟩
def NU(st:St):St:=⟨st.n,zI st.fr,rv st.M⟩
theorem Le.nl(st:St):Le C st (NU st):=by rintro a w ⟨β,H,hF,hW⟩;refine⟨β,H,⟨⟨hF.1.1,hF.1.2⟩,hF.2.1,λt x hg=>?_⟩,hW.nl⟩;obtain⟨y,hy,rfl⟩:=Ii hg;obtain⟨v,hv,hd⟩:=hF.2.2 t y hy;exact⟨v,hv,p8 hd⟩
@[simp] theorem mc:rv []=[]:=rfl
@[simp] theorem aa9{M:aD}:rv (none::M)=none::rv M:=rfl
@[simp] theorem jd{sz:Nat}{l:List SV}{f:Bool}{M:aD}:rv (some ⟨sz,l,f⟩::M)=some ⟨sz,lW l,f⟩::rv M:=rfl
@[simp] theorem ac5:zI []=[]:=rfl
@[simp] theorem XG{t:Nat}{x:SV}{fr:List (Nat × SV)}:zI ((t,x)::fr)=(t,iq x)::zI fr:=rfl
@[simp] theorem aeU:lW []=[]:=rfl
@[simp] theorem abK{l:List SV}{x:SV}:lW (x::l)=iq x::lW l:=rfl
@[simp] theorem agE:iq (.val (.slice none 0 0))=.ro []:=rfl
@[simp] theorem adK{k:IntKind}{n:Int}:iq (.val (.int k n))=.val (.int k n):=rfl
@[simp] theorem abR{b:Bool}:iq (.val (.bool b))=.val (.bool b):=rfl
@[simp] theorem agH{b:ByteArray}:iq (.val (.string b))=.val (.string b):=rfl
@[simp] theorem Vz:iq (.val .nilIface)=.val .nilIface:=rfl
@[simp] theorem Yr:iq (.val (.pointer none))=.val (.pointer none):=rfl
@[simp] theorem IS{l:List SV}:iq (.agg l)=.agg (lW l):=by simp only[iq]
@[simp] theorem adu{l:List SV}:iq (.bP l)=.bP (lW l):=by simp only[iq]
@[simp] theorem acL{k i n:Nat}:iq (.view k i n)=.view k i n:=by simp only[iq]
@[simp] theorem adw{k i n:Nat}:iq (.ptr k i n)=.ptr k i n:=by simp only[iq]
@[simp] theorem aiT{l:List SV}:iq (.ro l)=.ro l:=by simp only[iq]
@[simp] theorem aeA{x:SV}{j:Nat}:iq (.dc x j)=.dc x j:=by simp only[iq]
@[simp] theorem agW{t g:Nat}:iq (.iJ t g)=.iJ t g:=by simp only[iq]
end
end Go.Sv
namespace Go.Sv
open Go Go.RowKit
mutual
def fU(σ:Nat->Nat):SV->SV
 | .ptr k i j=>.ptr (σ k) i j
 | .view k i n=>.view (σ k) i n
 | .mp k=>.mp (σ k)
 | .agg l=>.agg (dE σ l)
 | .bP l=>.bP (dE σ l)
 | .iT t x=>.iT t (fU σ x)
 | .jw f l r=>.jw f (dE σ l) (dE σ r)
 | .val v=>.val v
 | .ro l=>.ro l
 | .dc x j=>.dc x j
 | .iJ t g=>.iJ t g
 | .any=>.any
def dE(σ:Nat->Nat):List SV->List SV
 | []=>[]
 | x::l=>fU σ x::dE σ l
end
mutual
theorem zu(σ:Nat->Nat):∀x:SV,x.pure=true->fU σ x=x
 | .ptr _ _ _,h=>by simp[SV.pure]at h
 | .view _ _ _,h=>by simp[SV.pure]at h
 | .mp _,h=>by simp[SV.pure]at h
 | .agg l,h=>by simp only[fU];rw[hI σ l (by simpa[SV.pure]using h)]
 | .bP l,h=>by simp only[fU];rw[hI σ l (by simpa[SV.pure]using h)]
 | .iT _ x,h=>by simp only[fU];rw[zu σ x (by simpa[SV.pure]using h)]
 | .jw _ l r,h=>by simp only[SV.pure,atl]at h;simp only[fU];rw[hI σ l h.1,hI σ r h.2]
 | .val _,_=>rfl
 | .ro _,_=>rfl
 | .dc _ _,_=>rfl
 | .iJ _ _,_=>rfl
 | .any,_=>rfl
theorem hI(σ:Nat->Nat):∀l:List SV,SV.bJ l=true->dE σ l=l
 | [],_=>rfl
 | x::l,h=>by simp only[SV.bJ,atl]at h;simp only[dE];rw[zu σ x h.1,hI σ l h.2]
end
mutual
theorem Fb(σ:Nat->Nat):∀x:SV,(fU σ x).pure=x.pure
 | .ptr _ _ _=>rfl
 | .view _ _ _=>rfl
 | .mp _=>rfl
 | .agg l=>by simp only[fU,SV.pure];exact kN σ l
 | .bP l=>by simp only[fU,SV.pure];exact kN σ l
 | .iT _ x=>by simp only[fU,SV.pure];exact Fb σ x
 | .jw _ l r=>by simp only[fU,SV.pure];rw[kN σ l,kN σ r]
 | .val _=>rfl
 | .ro _=>rfl
 | .dc _ _=>rfl
 | .iJ _ _=>rfl
 | .any=>rfl
theorem kN(σ:Nat->Nat):∀l:List SV,SV.bJ (dE σ l)=SV.bJ l
 | []=>rfl
 | x::l=>by simp only[dE,SV.bJ];rw[Fb σ x,kN σ l]
end
theorem OW(σ:Nat->Nat)(x:SV):(fU σ x).one=x.one:=by cases x<;>rfl
section
variable {β:ca} {H:Hp} {σ:Nat->Nat}
mutual
theorem kF:∀{x:SV} {v:Value},Den β H (fU σ x) v↔Den (λk=>β (σ k)) H x v
 | .ptr _ _ _,_=>by simp only[fU,Den]
 | .view _ _ _,_=>by simp only[fU,Den]
 | .mp _,_=>by simp only[fU,Den]
 | .agg l,v=>by simp only[fU,Den];exact exists_congr λvs=>and_congr axj Ej
 | .bP l,v=>by simp only[fU,Den];exact exists_congr λvs=>and_congr axj pg
 | .iT _ x,v=>by simp only[fU,Den];exact exists_congr λu=>and_congr axj kF
 | .jw _ l r,v=>by simp only[fU,Den];exact exists_congr λvs=>exists_congr λws=>and_congr axj (and_congr pg pg)
 | .val _,_=>by simp only[fU,Den]
 | .ro _,_=>by simp only[fU,Den]
 | .dc _ _,_=>by simp only[fU,Den]
 | .iJ _ _,_=>by simp only[fU,Den]
 | .any,_=>by simp only[fU,Den]
theorem Ej:∀{l:List SV} {vs:List Value},bE β H (dE σ l) vs↔bE (λk=>β (σ k)) H l vs
 | [],_=>by simp only[dE,bE]
 | x::l,vs=>by simp only[dE,bE,OW];exact exists_congr λv=>exists_congr λr=>and_congr axj (and_congr axj (and_congr kF Ej))
theorem pg:∀{l:List SV} {vs:List Value},bY β H (dE σ l) vs↔bY (λk=>β (σ k)) H l vs
 | [],_=>by simp only[dE,bY]
 | x::l,vs=>by simp only[dE,bY];exact exists_congr λv=>exists_congr λr=>and_congr axj (and_congr kF pg)
end
theorem EI{s:Nat}:∀{l:List SV} {vs:List Value},aW β H s (dE σ l) vs↔aW (λk=>β (σ k)) H s l vs
 | [],_=>by simp only[dE,aW]
 | x::l,vs=>by simp only[dE,aW];exact exists_congr λv=>exists_congr λr=>and_congr axj (and_congr axj (and_congr kF EI))
theorem zd:∀{l:List SV} {ms:List MapEntry} {n:Nat},cN β H (dE σ l) ms n↔cN (λk=>β (σ k)) H l ms n
 | [],_,_=>by simp only[dE,cN]
 | x::l,ms,n=>by
  simp only[dE,cN];constructor
  ·rintro⟨key,y,m,r,e,h2,h3,h4,h5,h6,h7⟩;cases x with
   | bP q =>
    simp only[fU,SV.bP.injEq]at e
    match q,e with
    | [a,b],e =>
     simp only[dE,List.cons.injEq,and_true]at e;obtain⟨e1,rfl⟩:=e;cases a<;>simp only[fU,SV.val.injEq,reduceCtorEq]at e1;subst e1;exact⟨_,b,m,r,rfl,h2,h3,h4,h5,kF.1 h6,zd.1 h7⟩
    | [],e=>simp[dE]at e
    | [a],e=>simp[dE]at e
    | a::b::c::d,e=>simp[dE]at e
   | _=>simp[fU]at e
  ·rintro⟨key,y,m,r,rfl,h2,h3,h4,h5,h6,h7⟩;exact⟨key,fU σ y,m,r,by simp only[fU,dE],h2,h3,h4,h5,kF.2 h6,zd.2 h7⟩
end
def fv(σ:Nat->Nat)(e:cz):cz:=⟨e.sz,dE σ e.es,e.fz⟩
theorem NA{σ:Nat->Nat}{l:List SV}:dE σ l=[]↔l=[]:=by cases l<;>simp[dE]
theorem oO.fU{β:ca}{H:Hp}{σ:Nat->Nat}{e:cz}{k:Nat}{w:World}:oO β H (fv σ e) (σ k) w↔oO (λi=>β (σ i)) H e k w:=by unfold oO fv;simp only[EI,zd,kN,NA]
def sg:List Nat->Nat->Nat->Nat
 | [],m,i=>m+i
 | k::_,_,0=>k
 | _::s,m,i+1=>sg s m i
def oW(σ:Nat->Nat):aD->List Nat->aD->aD
 | M,k::s,e::T=>oW σ (aX M k (e.map (fv σ))) s T
 | M,_,T=>M++T.map λe=>e.map (fv σ)
def kf(σ:Nat->Nat)(M:aD):List Nat->aD->Prop
 | k::s,some e::T=>aA M k=some (fv σ e)∧kf σ M s T
 | [],[]=>True
 | _,_=>False
def M9(s:List Nat)(k:Nat):Nat->aD->Bool
 | _,[]=>true
 | i,none::M=>M9 s k (i+1) M
 | i,some e::M=>(s.contains i||!SV.aZ k e.es)&&M9 s k (i+1) M
def l5:List Nat->aD->aD
 | [],M=>M
 | k::ks,M=>l5 ks (FD k M)
theorem LG{s:List Nat}{m i:Nat}(h:i<s.length):∃k∈s,sg s m i=k:=by
 induction s generalizing i with
 | nil=>simp at h
 | cons a s ih=>cases i with
  | zero=>exact⟨a,by simp,rfl⟩
  | succ i =>
   obtain⟨k,h1,h2⟩:=ih (i:=i) (by simpa using h);exact⟨k,by simp[h1],h2⟩
theorem Ry{s:List Nat}{m i:Nat}(h:s.length<=i):sg s m i=m+(i - s.length):=by
 induction s generalizing i with
 | nil=>simp[sg]
 | cons a s ih=>cases i with
  | zero=>simp at h
  | succ i=>simp only[sg,asw];rw[ih (by simpa using h)];congr 1;omega
theorem Lh{s:List Nat}{m k:Nat}(h:k∈s):∃i,i<s.length∧sg s m i=k:=by
 induction s with
 | nil=>cases h
 | cons a s ih =>
  rcases atf.1 h with rfl | h
  ·exact⟨0,by simp,rfl⟩
  ·obtain⟨i,h1,h2⟩:=ih h;exact⟨i+1,by simpa using h1,h2⟩
theorem R6{s:List Nat}{m:Nat}(hd:s.Nodup)(hm:∀k∈s,k<m):∀{i j:Nat},sg s m i=sg s m j->i=j:=by
 induction s with
 | nil=>intro i j h;simp only[sg]at h;omega
 | cons a s ih =>
  have ab:=List.nodup_cons.1 hd;have key:∀i,sg s m i=a->False:=λi h=>by
   rcases as2 i s.length with h' | h'
   ·obtain⟨k,h1,h2⟩:=LG (m:=m) h';rw[h2]at h;subst h;exact ab.1 h1
   ·rw[Ry h']at h;have:=hm a (by simp);omega
  intro i j h;cases i with
  | zero=>cases j with
   | zero=>rfl
   | succ j=>exact(key j h.symm).elim
  | succ i=>cases j with
   | zero=>exact(key i h).elim
   | succ j=>rw[ih ab.2 (λk hk=>hm k (by simp[hk])) h]
theorem Ap{σ:Nat->Nat}:∀{s:List Nat} {T M:aD} {i:Nat} {e':cz},s.length<=T.length->(oW σ M s T)[i]?=some (some e') ->
  (∃(k:Nat) (e:cz),sg s M.length k=i∧T[k]?=some (some e)∧e'=fv σ e)∨((∀k,k<T.length->sg s M.length k≠i)∧M[i]?=some (some e'))
 | [],T,M,i,e',_,h=>by
  cases T with
  | nil =>
   simp only[oW,atG,List.append_nil]at h;exact .inr ⟨λk hk=>by simp at hk,h⟩
  | cons t T =>
   simp only[oW]at h;rcases as2 i M.length with hi | hi
   ·rw[asp hi]at h;exact .inr ⟨λk _=>by simp only[sg];omega,h⟩
   ·rw[List.getElem?_append_right hi,asI]at h;left;cases ht:(t::T)[i - M.length]? with
    | none=>rw[ht]at h;cases h
    | some oe =>
     rw[ht]at h;cases oe with
     | none=>simp at h
     | some e=>simp at h;exact⟨i - M.length,e,by simp only[sg];omega,ht,h.symm⟩
 | a::s,[],M,i,e',hl,h=>by simp at hl
 | a::s,t::T,M,i,e',hl,h=>by
  simp only[oW]at h;rcases Ap (s:=s) (by simpa using hl) h with⟨k,e,h1,h2,h3⟩ | ⟨h1,h2⟩
  ·rw[s9]at h1;exact .inl ⟨k+1,e,h1,by simpa using h2,h3⟩
  ·rw[s9]at h1;rw[dI]at h2;rcases getElem?_set_cases h2 with⟨rfl,he,_⟩ | ⟨bm,aj⟩
   ·cases t with
    | none=>simp at he
    | some e=>simp at he;exact .inl ⟨0,e,rfl,by simp,he.symm⟩
   ·refine .inr ⟨λk hk=>?_,aj⟩;cases k with
    | zero=>exact Ne.symm bm
    | succ k=>exact h1 k (by simpa using hk)
theorem Dy{σ:Nat->Nat}:∀{s:List Nat} {T M:aD},s.length<=T.length->(oW σ M s T).length=M.length+(T.length - s.length)
 | [],T,M,_=>by cases T<;>simp[oW]
 | a::s,[],M,hl=>by simp at hl
 | a::s,t::T,M,hl=>by simp only[oW];rw[Dy (by simpa using hl),s9];simp
theorem uK{σ:Nat->Nat}{M:aD}:∀{s:List Nat} {T:aD} {m:Nat},kf σ M s T->s.length=T.length∧∀i,i<s.length->∃e:cz,T[i]?=some (some e)∧aA M (sg s m i)=some (fv σ e)
 | [],[],_,_=>⟨rfl,λi hi=>by simp at hi⟩
 | k::s,some e::T,m,h=>by
  simp only[kf]at h;obtain⟨h1,h2⟩:=uK (m:=m) h.2;refine⟨by simp[h1],λi hi=>?_⟩;cases i with
  | zero=>exact⟨e,rfl,h.1⟩
  | succ i=>simpa[sg]using h2 i (by simpa using hi)
 | [],_::_,_,h=>by simp[kf]at h
 | _::_,[],_,h=>by simp[kf]at h
 | _::_,none::_,_,h=>by simp[kf]at h
theorem FR{s:List Nat}{k:Nat}:∀{M:aD} {o i:Nat} {e:cz},M9 s k o M=true->M[i]?=some (some e)->o+i∉s->SV.aZ k e.es=false
 | [],o,i,e,_,h,_=>by simp at h
 | none::M,o,i,e,h,hi,hs=>by
  simp only[M9]at h;cases i with
  | zero=>simp at hi
  | succ i=>exact FR h (by simpa using hi) (by rw[show o+1+i=o+(i+1) by omega];exact hs)
 | some e0::M,o,i,e,h,hi,hs=>by
  simp only[M9,atl,Bool.or_eq_true,Bool.not_eq_true',List.contains_iff_mem]at h;cases i with
  | zero =>
   simp only[List.getElem?_cons_zero,ass]at hi;subst hi;exact h.1.resolve_left (by simpa using hs)
  | succ i=>exact FR h.2 (by simpa using hi) (by rw[show o+1+i=o+(i+1) by omega];exact hs)
theorem Oo(k:Nat)(M:aD):(FD k M).length=M.length:=by unfold FD o4;split<;>simp
theorem C6:∀(ks:List Nat) (M:aD),(l5 ks M).length=M.length
 | [],M=>rfl
 | k::ks,M=>by simp only[l5];rw[C6,Oo]
theorem cJ.l5{C:Ctx}{β:ca}{H:Hp}{w:World}:∀{ks:List Nat} {M:aD},cJ C β H M w->cJ C β H (Sv.l5 ks M) w
 | [],_,h=>h
 | k::ks,M,h=>by simp only[Sv.l5];exact cJ.l5 (h.FD k)
def kv(P:Program)(f:FuncId)(args:List SV)(T:aD)(pk:List Nat)(Φ:aD->SV->Prop):Prop :=
 ∀C:Ctx,C.fx=[]->dN P C f args T none λT' ae x=>ae=pk∧∃T1 y,Φ T1 y∧x=y∧fI T' T1∧T.length<=T1.length∧(T'.length=T1.length∨(y.lt T1.length=true∧ee T1.length T1))
section
variable {P:Program} {C:Ctx}
def rn(T:aD)(pk:List Nat)(Φ:aD->SV->Prop):aD->List Nat->SV->Prop:=λT' ae x=>ae=pk∧∃T1 y,Φ T1 y∧x=y∧fI T' T1∧T.length<=T1.length∧(T'.length=T1.length∨(y.lt T1.length=true∧ee T1.length T1))
theorem gu{f:FuncId}{fn:Func}{c:Code}{args:List SV}{T:aD}{pk:List Nat}{Φ:aD->SV->Prop}(hf:P.funcs[f]?=some fn)(hb:fn.body=some c)(hn:args.length<=fn.ntmps)
  (h:∀C':Ctx,C'.fx=(ati T.length).filter (λi=>!pk.contains i)->vc P C' c ⟨fn.ntmps,mh 0 args,T⟩ (gK P fn.results.toList pk (rn T pk Φ)) (gK P fn.results.toList pk (rn T pk Φ))):kv P f args T pk Φ:=by
 intro C hC;exact dV hf hb hn pk (λi _ hi=>by rw[hC]at hi;cases hi) (λks h=>by cases h) h
def nD(β:ca)(n:Nat):ca:=λk=>if k<n then β k else none
theorem cJ.TL{β:ca}{H:Hp}{M M':aD}{w:World}(h:cJ C β H M w)(hle:fI M M')(hj:M.length=M'.length∨ee M'.length M')(bn:C.fx=[]):cJ C (nD β M'.length) H M' w:=by
 have ap:=B4 hle;have aP:∀k e,M'[k]?=some (some e)->k<M'.length:=λk e hk=>by
  rcases as2 k M'.length with h' | h'
  ·exact h'
  ·rw[asu h']at hk;cases hk
 have au:∀(k:Nat) (e:cz),M'[k]?=some (some e)->∀j d,SV.aZ j e.es=true->β j=some d->nD β M'.length j=some d:=λk e hk j d hu hd=>by
  have:j<M'.length:=by
   rcases hj with hj | hj
   ·rcases as2 j M'.length with h' | h'
    ·exact h'
    ·rw[h.fresh j (by omega)]at hd;cases hd
   ·rcases as2 j M'.length with h' | h'
    ·exact h'
    ·rw[SV.lR h' _ (sP hj k e hk)]at hu;cases hu
  simp[nD,this,hd]
 have hc:∀{k d},k<M'.length->nD β M'.length k=some d->β k=some d:=λhk hd=>by simpa[nD,hk]using hd
 refine⟨h.os,h.tape,h.output,h.size,h.frame,h.ext,h.new,h.inv,λk e hk=>?_,λk e d hk hd=>h.own k e d (ap k e hk) (hc (aP k e hk) hd),
  λk k' e e' d d' hk ah hd ab=>h.inj k k' e e' d d' (ap k e hk) (ap k' e' ah) (hc (aP k e hk) hd) (hc (aP k' e' ah) ab),λk hk=>by simp[nD];omega,λk d hk=>(by rw[bn]at hk;cases hk),h.fT⟩
 have hb:∀d,β k=some d->nD β M'.length k=some d:=λd hd=>by simp[nD,aP k e hk,hd]
 rcases h.dt k e (ap k e hk)with⟨g1,g2⟩ | ⟨d,cs,T,vs,g1,g2,g3,g4,g5,g6⟩ | ⟨d,ms,g1,g2,g3,g4⟩
 ·exact .inl ⟨hb _ g1,g2⟩
 ·exact .inr (.inl ⟨d,cs,T,vs,hb _ g1,g2,g3,g4,aW.mono (λ_ _ h=>h) _ _ _ (au k e hk) g5,g6⟩)
 ·exact .inr (.inr ⟨d,ms,hb _ g1,g2,g3,cN.mono (λ_ _ h=>h) _ _ _ (au k e hk) g4⟩)
open Classical in
theorem mS{f:FuncId}{args al:List SV}{T M:aD}{pk:List Nat}{Φ:aD->SV->Prop}{W:Option (List Nat)}{K:aD->List Nat->SV->Prop}(h:kv P f al T pk Φ)(s:List Nat)(hd:s.Nodup)
  (hT:kf (sg s M.length) M s T) (ha:args=dE (sg s M.length) al) (bb:∀k∈pk,k<T.length∧sg s M.length k∉C.fx∧M9 s (sg s M.length k) 0 (l5 (pk.map (sg s M.length)) M)=true)
  (hW:∀ks,W=some ks->pk=[]∧∀k∈s,k∈ks)
  (hK:∀T1 y,Φ T1 y->K (oW (sg s M.length) (l5 (pk.map (sg s M.length)) M) s T1) (pk.map (sg s M.length)) (fU (sg s M.length) y)):dN P C f args M W K:=by
 intro β H w aE bc ac;have hlen:s.length=T.length:=(uK (m:=0) hT).1;have hσ:=(uK (m:=M.length) hT).2;have bd:∀k∈s,k<M.length:=λk hk=>by obtain⟨i,hi,rfl⟩:=Lh (m:=M.length) hk;obtain⟨e, -,h2⟩:=hσ i hi;exact(ata.1 (aT h2)).1
 have aF:=λ{i j}=>R6 (s:=s) (m:=M.length) hd bd (i:=i) (j:=j);have hσlt:∀i,i<s.length->sg s M.length i<M.length:=λi hi=>by obtain⟨k,hk,e⟩:=LG (m:=M.length) hi;rw[e];exact bd k hk
 have aJ:∀i,s.length<=i->sg s M.length i=M.length+(i - s.length):=λi hi=>Ry hi;generalize aq:sg s M.length=σ at *
 let β0:ca:=λk=>β (σ k)
 have hD:bY β0 H al aE:=by rw[ha]at bc;exact pg.1 bc
 let X:List Nat:=(ati s.length).filterMap λi=>match β0 i with
  | some (some d)=>some d.b
  | _=>none
 have hX:∀b,b∈X↔∃i d,i<s.length∧β (σ i)=some (some d)∧d.b=b:=λb=>by
  simp only[X,List.mem_filterMap,List.mem_range];constructor
  ·rintro⟨i,hi,he⟩;split at he
   ·rename_i d h2;simp only[ass]at he;exact⟨i,d,hi,h2,he⟩
   ·cases he
  ·rintro⟨i,d,hi,hd,rfl⟩;refine⟨i,hi,?_⟩;have:β0 i=some (some d):=hd;rw[this]
 have aw:∀b,b∈X->C.w0.heap.size<=b∨b∈C.X:=λb hb=>by obtain⟨i,d,h1,h2,rfl⟩:=(hX b).1 hb;obtain⟨e, -,h3⟩:=hσ i h1;exact(ac.own (σ i) _ d (aT h3) h2).2
 let C0:Ctx:=⟨w,H,X,β0,[]⟩
 have am:∀(k:Nat) (e:cz),T[k]?=some (some e)->k<s.length∧aA M (σ k)=some (fv σ e):=λk e hk=>by
  have ah:k<s.length:=by have:=(ata.1 hk).1;omega
  obtain⟨e2,h2,h3⟩:=hσ k ah;rw[hk]at h2;simp only[ass]at h2;subst h2;exact⟨ah,h3⟩
 have bo:cJ C0 β0 H T w:=⟨rfl,rfl,rfl,Nat.le_refl _,λ_ _ _=>rfl,λ_ _ h=>h,λ_ _ h=>.inl h,ac.inv,
  λk e hk=>oO.fU.1 (ac.dt (σ k) _ (aT (am k e hk).2)),
  λk e d hk hd=>⟨(ac.own (σ k) (fv σ e) d (aT (am k e hk).2) hd).1,.inr ((hX _).2 ⟨k,d,(am k e hk).1,hd,rfl⟩)⟩,
  λk k' e e' d d' hk ah hd ab hb=>aF (ac.inj (σ k) (σ k') (fv σ e) (fv σ e') d d' (aT (am k e hk).2) (aT (am k' e' ah).2) hd ab hb),
  λk hk=>ac.fresh _ (by rw[aJ k (by omega)];omega),λk d hk=>(by cases hk),ac.fT⟩
 refine Calls.mono (h C0 rfl β0 H w aE hD bo) ?_;rintro e w1 ⟨β1,H1,T',v,x,ae,rfl,g1,g2,g3,g4,⟨rfl,T1,y,hΦ,rfl,hle,be,hj⟩,g6, -⟩;have bp:T'.length=T1.length∨ee T1.length T1:=hj.imp id And.right;have aG:cJ C0 (nD β1 T1.length) H1 T1 w1:=g2.TL hle bp rfl;have ar:=ac.l5 (ks:=ae.map σ);have aU:∀{k d},k<s.length->β1 k=some d->nD β1 T1.length k=some d:=λ{k d} hk hd=>by
  have:k<T1.length:=by omega
  simp[nD,this,hd]
 have bq:Den (nD β1 T1.length) H1 x v:=by
  refine Den.mono (λ_ _ h=>h) x v (λk d hu hd=>?_) g1;have:k<T1.length:=by
   rcases hj with hj | ⟨hj, -⟩
   ·rcases as2 k T1.length with h' | h'
    ·exact h'
    ·rw[g2.fresh k (by omega)]at hd;cases hd
   ·rcases as2 k T1.length with h' | h'
    ·exact h'
    ·rw[SV.wH h' x hj]at hu;cases hu
  simp[nD,this,hd]
 let β':ca:=λi=>if hx:∃k,σ k=i then nD β1 T1.length (at4 hx) else β i
 have hβσ:∀k,β' (σ k)=nD β1 T1.length k:=λk=>by have hx:∃k',σ k'=σ k:=⟨k,rfl⟩;show(if hx:∃k',σ k'=σ k then nD β1 T1.length (at4 hx) else β (σ k))=_;rw[dif_pos hx];rw[aF (at5 hx)]
 have hβo:∀i,(∀k,σ k≠i)->β' i=β i:=λi hi=>by show(if hx:∃k',σ k'=i then nD β1 T1.length (at4 hx) else β i)=_;rw[dif_neg (λ⟨k,hk⟩=>hi k hk)]
 have hβfun:(λk=>β' (σ k))=nD β1 T1.length:=funext hβσ;have an:∀i d,i∉ae.map σ->β i=some d->β' i=some d:=λi d hi hd=>by
  by_cases hx:∃k,σ k=i
  ·obtain⟨k,rfl⟩:=hx;rw[hβσ];have aY:k<s.length:=by
    rcases as2 k s.length with h' | h'
    ·exact h'
    ·rw[ac.fresh _ (by rw[aJ k h'];omega)]at hd;cases hd
   exact aU aY (g3 k d (λhp=>hi (atB.2 ⟨k,hp,rfl⟩)) hd)
  ·rw[hβo i λk hk=>hx ⟨k,hk⟩];exact hd
 have a0:∀i,(∀k,k<T1.length->σ k≠i)->i<M.length->∀k,σ k≠i:=λi hi az k hk=>by
  rcases as2 k T1.length with h' | h'
  ·exact hi k h' hk
  ·rw[aJ k (by omega)]at hk;omega
 have ao:∀b,b<w.heap.size->b∉X->w1.heap[b]?=w.heap[b]?:=λb hb hx=>g2.frame b hb hx;have aK:(l5 (ae.map σ) M).length=M.length:=C6 _ _;have ai:∀(i:Nat) (e':cz),(oW σ (l5 (ae.map σ) M) s T1)[i]?=some (some e') ->
   (∃(k:Nat) (e:cz),σ k=i∧T1[k]?=some (some e)∧e'=fv σ e)∨((∀k,σ k≠i)∧i<M.length∧(l5 (ae.map σ) M)[i]?=some (some e')):=λi e' hi=>by
  rcases Ap (by omega) hi with h1 | ⟨h1,h2⟩
  ·rw[aK,aq]at h1;exact .inl h1
  ·rw[aK,aq]at h1;have az:i<M.length:=by rw[<-aK];exact(ata.1 h2).1
   exact .inr ⟨a0 i h1 az,az,h2⟩
 have aM:∀(i:Nat) (e':cz) (d:Bd),(∀k,σ k≠i)->(l5 (ae.map σ) M)[i]?=some (some e')->β i=some (some d)->d.b∉X:=λi e' d hi he ab hb=>by
  obtain⟨k,d2,h1,h2,h3⟩:=(hX _).1 hb;obtain⟨e2, -,h4⟩:=hσ k h1;have a5:∃e0:cz,(l5 (ae.map σ) M)[σ k]?=some (some e0):=by
   have aux:∀(ks:List Nat) (M:aD) (q:Nat),(∃e0:cz,M[q]?=some (some e0))->∃e0:cz,(l5 ks M)[q]?=some (some e0):=λks=>by
    induction ks with
    | nil=>intro M q h;exact h
    | cons a ks ih =>
     rintro M q ⟨e0,h⟩;refine ih _ _ ?_;unfold FD;split
     ·exact⟨e0,h⟩
     ·simp only[o4,asI,h];exact⟨_,rfl⟩
   exact aux _ _ _ ⟨_,aT h4⟩
  obtain⟨e0,a5⟩:=a5;exact hi k (ar.inj (σ k) i e0 e' d2 d a5 he h2 ab h3)
 refine⟨β',H1,oW σ (l5 (ae.map σ) M) s T1,v,fU σ x,ae.map σ,rfl,kF.2 (by rw[hβfun];exact bq),?_,an,g4,hK T1 x hΦ,g6,λks aY=>?_⟩
 ·refine⟨g2.os.trans ac.os,g2.tape.trans ac.tape,g2.output.trans ac.output,atj ac.size g6,λb hb hx=>?_,λb cs hb=>g4 b cs (ac.ext b cs hb),λb cs hb=>?_,g2.inv,λi e' hi=>?_,λi e' d hi ab=>?_,λi i' e1 e2 d1 d2 hi aj af ag hb=>?_,λi hi=>?_,λi d hi ab=>?_,g2.fT⟩
  ·rw[ao b (Nat.lt_of_lt_of_le hb ac.size) (λa6=>by rcases aw b a6 with h' | h';omega;exact hx h')];exact ac.frame b hb hx
  ·rcases g2.new b cs hb with h' | h' | h'
   ·exact ac.new b cs h'
   ·exact .inr (.inl (atj ac.size h'))
   ·exact .inr (aw b h')
  ·rcases ai i e' hi with⟨k,e0,rfl,h2,rfl⟩ | ⟨h1,az,h2⟩
   ·refine oO.fU.2 ?_;rw[hβfun];exact aG.dt k e0 h2
   ·have a7:∀d,β i=some d->β' i=some d:=λd ab=>by rw[hβo i h1];exact ab
    have bg:∀j d,SV.aZ j e'.es=true->β j=some d->β' j=some d:=λj d hu ab=>by
     refine an j d (λhp=>?_) ab;obtain⟨k,hk,rfl⟩:=atB.1 hp;have:=FR (bb k hk).2.2 h2 (by rw[Nat.zero_add];intro hs;obtain⟨q, -,e⟩:=Lh (m:=M.length) hs;rw[aq]at e;exact h1 q e)
     rw[this]at hu;cases hu
    have bh:∀d,β i=some (some d)->w1.heap[d.b]?=w.heap[d.b]?:=λd ab=>ao _ (ar.lt h2 ab) (aM i e' d h1 h2 ab);rcases ar.dt i e' h2 with⟨q1,q2⟩ | ⟨d,cs,Tt,vs,q1,q2,q3,q4,q5,q6,q7,q8⟩ | ⟨d,ms,q1,q2,q3,q4⟩
    ·exact .inl ⟨a7 _ q1,q2⟩
    ·exact .inr (.inl ⟨d,cs,Tt,vs,a7 _ q1,q2,by rw[bh d q1];exact q3,q4,aW.mono g4 _ _ _ bg q5,q6,q7,λhf=>⟨g4 _ _ (q8 hf).1,(q8 hf).2⟩⟩)
    ·exact .inr (.inr ⟨d,ms,a7 _ q1,q2,by rw[bh d q1];exact q3,cN.mono g4 _ _ _ bg q4⟩)
  ·rcases ai i e' hi with⟨k,e0,rfl,h2,rfl⟩ | ⟨h1,az,h2⟩
   ·rw[hβσ]at ab;obtain⟨q1,q2⟩:=aG.own k e0 d h2 ab;refine⟨q1,?_⟩;rcases q2 with h' | h'
    ·exact .inl (atj ac.size h')
    ·exact aw _ h'
   ·rw[hβo i h1]at ab;obtain⟨q1,q2⟩:=ar.own i e' d h2 ab;refine⟨λhf=>?_,q2⟩;cases hH:H1 d.b with
    | none=>rfl
    | some cs =>
     rcases g2.new _ _ hH with h' | h' | h'
     ·have aH:H d.b=some cs:=h';rw[q1 hf]at aH;cases aH
     ·have aP:=ar.lt h2 ab;have aH:w.heap.size<=d.b:=h';omega
     ·exact absurd h' (aM i e' d h1 h2 ab)
  ·rcases ai i e1 hi with⟨k,e0,rfl,h2,rfl⟩ | ⟨h1,az,h2⟩<;>rcases ai i' e2 aj with⟨k',ay,rfl,aB,rfl⟩ | ⟨a8,br,aB⟩
   ·rw[hβσ]at af ag;rw[aG.inj k k' e0 ay d1 d2 h2 aB af ag hb]
   ·rw[hβσ]at af;rw[hβo i' a8]at ag;exfalso;rcases(aG.own k e0 d1 h2 af).2 with h' | h'
    ·have aP:=ar.lt aB ag;have aH:w.heap.size<=d1.b:=h';omega
    ·rw[hb]at h';exact aM i' e2 d2 a8 aB ag h'
   ·rw[hβσ]at ag;rw[hβo i h1]at af;exfalso;rcases(aG.own k' ay d2 aB ag).2 with h' | h'
    ·have aP:=ar.lt h2 af;have aH:w.heap.size<=d2.b:=h';omega
    ·rw[<-hb]at h';exact aM i e1 d1 h1 h2 af h'
   ·rw[hβo i h1]at af;rw[hβo i' a8]at ag;exact ar.inj i i' e1 e2 d1 d2 h2 aB af ag hb
  ·rw[Dy (by omega),aK]at hi;have e:σ (s.length+(i - M.length))=i:=by rw[aJ _ (by omega)];omega
   have bs:¬s.length+(i - M.length)<T1.length:=by omega
   rw[<-e,hβσ];simp[nD,bs]
  ·refine an i d (λhp=>?_) (ac.im i d hi ab);obtain⟨k,hk,rfl⟩:=atB.1 hp;exact(bb k hk).2.1 hi
 ·obtain⟨q1,q2⟩:=hW ks aY;subst q1;refine⟨rfl,λb hb hn=>ao b hb λa6=>?_⟩;obtain⟨k,d,h1,h2,h3⟩:=(hX _).1 a6;obtain⟨q,hq,e⟩:=LG (m:=M.length) h1;rw[aq]at e;exact hn (σ k) (by rw[e];exact q2 q hq) d h2 h3.symm
end
@[simp] theorem Ve{C:Ctx}{Q:bf}{c:List PanicEntry}{st:St}:WS C Q (.panic c) st=∃st',Le C st st'∧Q (.panic c) st':=rfl
def isP(x:SV):Prop:=x.pure=true
@[simp] theorem ajd(x:SV):isP x=(x.pure=true):=propext axj
def Ua(x:List SV):Prop:=SV.bJ x=true
@[simp] theorem ae4(x:List SV):Ua x=(SV.bJ x=true):=propext axj
@[simp] theorem Y3{σ:Nat->Nat}{x:SV}(h:isP x):fU σ x=x:=zu σ x h
@[simp] theorem W2{σ:Nat->Nat}{l:List SV}(h:Ua l):dE σ l=l:=hI σ l h
@[simp] theorem abT{k:Nat}{es:List SV}{x:SV}(h:isP x):kj k es x=x:=xy k es x h
@[simp] theorem Xs{k:Nat}{es:List SV}{l:List SV}(h:Ua l):nI k es l=l:=jU k es l h
@[simp] theorem agn{k:Nat}{es a b:List SV}:nI k es (a++b)=nI k es a++nI k es b:=by
 induction a with
 | nil=>simp
 | cons x a ih=>simp[ih]
@[simp] theorem aeM{k:Nat}{es l r:List SV}{f:FuncId}:kj k es (.jw f l r)=.jw f (nI k es l) (nI k es r):=by simp only[kj]
@[simp] theorem aeW{α:Type}(f:α->SV)(l:List α):List.take l.length (l.map f)=l.map f:=List.take_of_length_le (by simp)
@[simp] theorem adk{σ:Nat->Nat}{k i j:Nat}:fU σ (.ptr k i j)=.ptr (σ k) i j:=by simp only[fU]
@[simp] theorem Mo{σ:Nat->Nat}{k i n:Nat}:fU σ (.view k i n)=.view (σ k) i n:=by simp only[fU]
@[simp] theorem ahR{σ:Nat->Nat}{k:Nat}:fU σ (.mp k)=.mp (σ k):=by simp only[fU]
@[simp] theorem B5{σ:Nat->Nat}{l:List SV}:fU σ (.agg l)=.agg (dE σ l):=by simp only[fU]
@[simp] theorem Br{σ:Nat->Nat}{l:List SV}:fU σ (.bP l)=.bP (dE σ l):=by simp only[fU]
@[simp] theorem CJ{σ:Nat->Nat}{t:TypeId}{x:SV}:fU σ (.iT t x)=.iT t (fU σ x):=by simp only[fU]
@[simp] theorem Bs{σ:Nat->Nat}{f:FuncId}{l r:List SV}:fU σ (.jw f l r)=.jw f (dE σ l) (dE σ r):=by simp only[fU]
@[simp] theorem adA{σ:Nat->Nat}{v:Value}:fU σ (.val v)=.val v:=by simp only[fU]
@[simp] theorem akl{σ:Nat->Nat}{l:List SV}:fU σ (.ro l)=.ro l:=by simp only[fU]
@[simp] theorem ac2{σ:Nat->Nat}{x:SV}{j:Nat}:fU σ (.dc x j)=.dc x j:=by simp only[fU]
@[simp] theorem afp{σ:Nat->Nat}{t g:Nat}:fU σ (.iJ t g)=.iJ t g:=by simp only[fU]
@[simp] theorem adC{σ:Nat->Nat}:fU σ .any=.any:=by simp only[fU]
@[simp] theorem Vq{σ:Nat->Nat}:dE σ []=[]:=by simp only[dE]
@[simp] theorem mU{σ:Nat->Nat}{x:SV}{l:List SV}:dE σ (x::l)=fU σ x::dE σ l:=by simp only[dE]
@[simp] theorem Zf{σ:Nat->Nat}{a b:List SV}:dE σ (a++b)=dE σ a++dE σ b:=by
 induction a with
 | nil=>simp
 | cons x a ih=>simp[ih]
@[simp] theorem wN{σ:Nat->Nat}{s:Nat}{l:List SV}{f:Bool}:fv σ ⟨s,l,f⟩=⟨s,dE σ l,f⟩:=rfl
@[simp] theorem ahE{m i:Nat}:sg [] m i=m+i:=rfl
@[simp] theorem adQ{k m:Nat}{s:List Nat}:sg (k::s) m 0=k:=rfl
@[simp] theorem H6{k m i:Nat}{s:List Nat}:sg (k::s) m (i+1)=sg s m i:=rfl
@[simp] theorem I4{σ:Nat->Nat}{M T:aD}{k:Nat}{s:List Nat}{e:Option cz}:oW σ M (k::s) (e::T)=oW σ (aX M k (e.map (fv σ))) s T:=rfl
@[simp] theorem Xx{σ:Nat->Nat}{M T:aD}:oW σ M [] T=M++T.map λe=>e.map (fv σ):=by cases T<;>rfl
@[simp] theorem Ef{σ:Nat->Nat}{M T:aD}{k:Nat}{s:List Nat}{e:cz}:kf σ M (k::s) (some e::T)=(aA M k=some (fv σ e)∧kf σ M s T):=rfl
@[simp] theorem SK{σ:Nat->Nat}{M:aD}:kf σ M [] []=True:=rfl
@[simp] theorem afG{s:List Nat}{k i:Nat}:M9 s k i []=true:=rfl
@[simp] theorem acQ{s:List Nat}{k i:Nat}{M:aD}:M9 s k i (none::M)=M9 s k (i+1) M:=rfl
@[simp] theorem aaa{s:List Nat}{k i:Nat}{e:cz}{M:aD}:M9 s k i (some e::M)=((s.contains i||!SV.aZ k e.es)&&M9 s k (i+1) M):=rfl
@[simp] theorem ab7{M:aD}:l5 [] M=M:=rfl
@[simp] theorem Wj{k:Nat}{ks:List Nat}{M:aD}:l5 (k::ks) M=l5 ks (FD k M):=rfl
@[simp] theorem ZB{T T':aD}{pk ae:List Nat}{Φ:aD->SV->Prop}{x:SV}:rn T pk Φ T' ae x=(ae=pk∧∃T1 y,Φ T1 y∧x=y∧fI T' T1∧T.length<=T1.length∧(T'.length=T1.length∨(y.lt T1.length=true∧ee T1.length T1))):=rfl
end Go.Sv
namespace Go.Sv
open Go
section
variable {σ:Nat->Nat} {n:Nat}
mutual
theorem Ge(h:∀i,i<n->σ i=i):∀x:SV,x.lt n=true->fU σ x=x
 | .val _,_=>by simp
 | .ptr k _ _,hx=>by simp only[SV.lt,decide_eq_true_eq]at hx;simp[h k hx]
 | .view k _ _,hx=>by simp only[SV.lt,decide_eq_true_eq]at hx;simp[h k hx]
 | .ro _,_=>by simp
 | .dc _ _,_=>by simp
 | .agg l,hx=>by simp only[SV.lt]at hx;rw[B5,jL h l hx]
 | .bP l,hx=>by simp only[SV.lt]at hx;rw[Br,jL h l hx]
 | .iT _ x,hx=>by simp only[SV.lt]at hx;rw[CJ,Ge h x hx]
 | .iJ _ _,_=>by simp
 | .any,_=>by simp
 | .jw _ l r,hx=>by simp only[SV.lt,atl]at hx;rw[Bs,jL h l hx.1,jL h r hx.2]
 | .mp k,hx=>by simp only[SV.lt,decide_eq_true_eq]at hx;simp[h k hx]
theorem jL(h:∀i,i<n->σ i=i):∀l:List SV,SV.kZ n l=true->dE σ l=l
 | [],_=>by simp
 | x::l,hx=>by simp only[SV.kZ,atl]at hx;rw[mU,Ge h x hx.1,jL h l hx.2]
end
end
theorem ED(m:Nat):∀(n a i:Nat),i<n->sg (at1 a n) m i=a+i
 | 0,_,_,h=>by omega
 | n+1,a,0,_=>by simp[at2]
 | n+1,a,i+1,h=>by rw[at2,H6,ED m n (a+1) i (by omega)];omega
def whole(n:Nat):aD->Prop
 | []=>True
 | none::_=>False
 | some e::M=>SV.kZ n e.es=true∧whole n M
theorem Ot(pre T:aD)(x:Option cz):aA (pre++x::T) pre.length=x:=by
 induction pre with
 | nil=>rfl
 | cons y pre ih=>simpa[aA]using ih
theorem PC(pre T:aD)(x y:Option cz):aX (pre++x::T) pre.length y=pre++y::T:=by
 induction pre with
 | nil=>rfl
 | cons z pre ih=>simpa[aX]using ih
theorem yE{σ:Nat->Nat}{N:Nat}(h:∀i,i<N->σ i=i):∀(T pre tl:aD),whole N T->kf σ (pre++(T++tl)) (at1 pre.length T.length) T
 | [],_,_,_=>by simp
 | none::_,_,_,hw=>hw.elim
 | some e::T,pre,tl,hw=>by
  rw[asw,at2,Ef];refine⟨?_,?_⟩
  ·rw[as8,Ot];cases e;rw[wN,jL h _ hw.1]
  ·have:=yE h T (pre++[some e]) tl hw.2;simpa using this
theorem Di{σ:Nat->Nat}{N:Nat}(h:∀i,i<N->σ i=i):∀(T1 T pre tl:aD),whole N T1->T1.length=T.length->oW σ (pre++(T++tl)) (at1 pre.length T.length) T1=pre++(T1++tl)
 | [],[],pre,tl,_,_=>by simp
 | [],_::_,_,_,_,e=>by simp at e
 | _::_,[],_,_,_,e=>by simp at e
 | none::_,_::_,_,_,hw,_=>hw.elim
 | some e::T1,x::T,pre,tl,hw,hl=>by
  rw[asw,at2,I4,as8,PC];have hr:(some e).map (fv σ)=some e:=by cases e;rw[Option.map_some,wN,jL h _ hw.1]
  rw[hr];have:=Di h T1 T (pre++[some e]) tl hw.2 (by simpa using hl);simpa using this
theorem H5{P:Program}{C:Ctx}{f:FuncId}{args:List SV}{T tl:aD}{Φ:aD->SV->Prop}{W:Option (List Nat)}{K:aD->List Nat->SV->Prop}(h:kv P f args T [] Φ)
  (hT:whole T.length T) (ha:SV.kZ T.length args=true) (hW:∀ks,W=some ks->∀k,k<T.length->k∈ks)
  (hK:∀T1 y,Φ T1 y->whole T.length T1∧T1.length=T.length∧y.lt T.length=true∧K (T1++tl) [] y):dN P C f args (T++tl) W K:=by
 have hs:∀i,i<T.length->sg (at1 0 T.length) (T++tl).length i=i:=λi hi=>by rw[ED _ _ _ _ hi];omega
 refine mS h (at1 0 T.length) (List.nodup_range' ..) ?_ ?_ (λk hk=>by cases hk) (λks e=>⟨rfl,λk hk=>hW ks e k (by simpa using hk)⟩) (λT1 y hΦ=>?_)
 ·exact yE hs T [] tl hT
 ·rw[jL hs _ ha]
 ·obtain⟨g1,g2,g3,g4⟩:=hK T1 y hΦ;rw[atG,Ge hs y g3];have e:l5 [] (T++tl)=T++tl:=rfl;rw[e];have:=Di hs T1 T [] tl g1 g2;rw[at3,at3,List.length_nil]at this;rw[this];exact g4
end Go.Sv

