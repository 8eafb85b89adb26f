/- A text of the prover's own. -/
import Derived.Test.YtmghjkkjaolpgaaGreatDoorUPl
open Bool renaming and_eq_true→amS
open Option.some renaming injEq→al0
open Nat renaming lt_or_ge→amz,le_trans→amQ
open List renaming length_take→anG,getElem?_take_of_lt→amd,getElem?_map→amf,map_cons→amc,getElem?_eq_none→al2,getElem?_append_left→alX,mem_cons→amM,range→amP,getElem?_eq_some_iff→amH,mem_map→am8
open Classical renaming choose→aoK,choose_spec→aoL
namespace Go.Sv
open Go Go.RowKit
mutual
def jT(k:Nat)(es:List SV):SV→SV
 | .view k' i n=>if k'=k∧i+n≤es.length then .ro ((es.drop i).take n) else .view k' i n
 | .ptr k' i j=>if k'=k∧i<es.length∧(aA es i).aM=false then .bU (aA es i) j else .ptr k' i j
 | .agg l=>.agg (j5 k es l)
 | .bG l=>.bG (j5 k es l)
 | .iw t x=>.iw t (jT k es x)
 | .gA f l r=>.gA f (j5 k es l) (j5 k es r)
 | .val v=>.val v
 | .ro l=>.ro l
 | .bU x j=>.bU x j
 | .fp t g=>.fp t g
 | .any=>.any
 | .mp k'=>.mp k'
def j5(k:Nat)(es:List SV):List SV→List SV
 | []=>[]
 | x::l=>jT k es x::j5 k es l
end
mutual
theorem vu(k:Nat)(es:List SV):∀x:SV,x.pure=true→jT k es x=x
 | .mp _,_=>rfl
 | .view _ _ _,h=>by simp[SV.pure]at h
 | .ptr _ _ _,h=>by simp[SV.pure]at h
 | .agg l,h=>by simp only[jT];rw[dR k es l (by simpa[SV.pure]using h)]
 | .bG l,h=>by simp only[jT];rw[dR k es l (by simpa[SV.pure]using h)]
 | .iw _ x,h=>by simp only[jT];rw[vu k es x (by simpa[SV.pure]using h)]
 | .gA _ l r,h=>by
  simp only[SV.pure,amS]at h;simp only[jT];rw[dR k es l h.1,dR k es r h.2]
 | .val _,_=>rfl
 | .ro _,_=>rfl
 | .bU _ _,_=>rfl
 | .fp _ _,_=>rfl
 | .any,_=>rfl
theorem dR(k:Nat)(es:List SV):∀l:List SV,SV.ba l=true→j5 k es l=l
 | [],_=>rfl
 | x::l,h=>by
  simp only[SV.ba,amS]at h;simp only[j5];rw[vu k es x h.1,dR k es l h.2]
end
theorem Ko(k:Nat)(es:List SV):∀l:List SV,(j5 k es l).length=l.length
 | []=>rfl
 | x::l=>by simp[j5,Ko k es l]
theorem Lk(k:Nat)(es:List SV)(x:SV)(h:x.one=true):(jT k es x).one=true:=by
 cases x with
 | ptr k' i j=>simp only[jT];by_cases hc:k'=k∧i<es.length∧(aA es i).aM=false<;>simp[hc,SV.one]
 | view k' i n=>simp only[jT];by_cases hc:k'=k∧i+n≤es.length<;>simp[hc,SV.one]
 | agg l=>cases h
 | bG l=>cases h
 | val v=>exact h
 | _=>rfl
section
variable {P:Program} {C:Ctx} {β:bO} {H:Hp} {M:aJ} {w:World}
mutual
theorem oz(hW:cv C β H M w){k:Nat}{e:cx}(hk:ao M k=some e)(hf:e.fz=true):∀{x:SV} {v:Value},Den β H x v→Den β H (jT k e.es x) v
 | .val _,v,h=>h
 | .ro _,v,h=>h
 | .bU _ _,v,h=>h
 | .fp _ _,v,h=>h
 | .any,v,h=>h
 | .mp _,v,h=>h
 | .agg l,v,h=>by
  simp only[Den,jT]at h ⊢;obtain⟨vs,rfl,h⟩:=h;exact⟨vs,rfl,BG hW hk hf h⟩
 | .bG l,v,h=>by
  simp only[Den,jT]at h ⊢;obtain⟨vs,rfl,h⟩:=h;exact⟨vs,rfl,nT hW hk hf h⟩
 | .iw t x,v,h=>by
  simp only[Den,jT]at h ⊢;obtain⟨u,rfl,h⟩:=h;exact⟨u,rfl,oz hW hk hf h⟩
 | .gA f l r,v,h=>by
  simp only[Den,jT]at h ⊢;obtain⟨vs,ws,rfl,h1,h2⟩:=h;exact⟨vs,ws,rfl,nT hW hk hf h1,nT hW hk hf h2⟩
 | .view k' i n,v,h=>by
  simp only[jT];split
  ·rename_i hc;obtain⟨rfl,hin⟩:=hc;have hlen:((e.es.drop i).take n).length=n:=by simp;omega
   simp only[Den]at h ⊢;rcases h with⟨a1,rfl,rfl,rfl⟩ | ⟨d,c,o,a1,a2,a3,a4,rfl⟩
   ·left;exact⟨by simp,_,_,rfl⟩
   ·rcases hW.da k' e (aL hk)with⟨b1,_⟩ | ⟨d',cs,T,vs,b1,b2,b3,b4,b5,b6,b7,b8⟩ | ⟨d',ms,b1,b2,b3,b4⟩
    rotate_left 2
    ·rw[a1]at b1;simp only[al0]at b1;subst b1;rw[b2.2.1,b2.2.2]at a3;have hn0:n=0:=by omega
     subst hn0;left;exact⟨by simp,_,_,rfl⟩
    ·rw[a1]at b1;simp at b1
    ·right;rw[a1]at b1;simp only[al0]at b1;subst b1;obtain⟨c1,c2⟩:=b8 hf;have b5':=oN b5 c2;have hl:=b5'.length;rcases Nat.eq_zero_or_pos n with rfl | hn
     ·exact⟨d.b,o,c,e.sz,cs,[],by simp,by simp,c1,by simp[aU],by simp⟩
     ·have ho:=a4 (by omega);refine⟨d.b,o,c,e.sz,cs,(vs.drop (i*e.sz)).take (n*e.sz),by rw[hlen],by rw[hlen];exact a2,c1,(b5'.drop i).take n,fun q hq=>?_⟩;simp only[anG,List.length_drop]at hq;rw[amd (by omega),List.getElem?_drop,ho,b2];exact b7 _ (by omega)
  ·exact h
 | .ptr k' i j,v,h=>by
  simp only[jT];split
  ·rename_i hc;obtain⟨rfl,hin,hnt⟩:=hc;simp only[Den]at h ⊢;obtain⟨d,a1,rfl⟩:=h;rcases hW.da k' e (aL hk)with⟨b1,_⟩ | ⟨d',cs,T,vs,b1,b2,b3,b4,b5,b6,b7,b8⟩ | ⟨d',ms,b1,b2,b3,b4⟩
   rotate_left 2
   ·obtain⟨l,hl⟩:=b4.Fu _ hin;rw[hl]at hnt;simp[SV.aM]at hnt
   ·rw[a1]at b1;simp at b1
   ·rw[a1]at b1;simp only[al0]at b1;subst b1;obtain⟨c1,c2⟩:=b8 hf;have b5':=oN b5 c2;have hl:=b5'.length;obtain⟨u,u1,u2,u3⟩:=b5'.get hin;refine⟨d.b,i*e.sz,cs,u,by rw[b2],c1,u1,fun q hq=>?_⟩;rw[u2]at hq;have:=Nat.mul_le_mul_right e.sz (show i+1≤e.es.length from hin);rw[Nat.add_mul,Nat.one_mul]at this;rw[b7 _ (by omega)];exact u3 q hq
  ·exact h
theorem BG(hW:cv C β H M w){k:Nat}{e:cx}(hk:ao M k=some e)(hf:e.fz=true):∀{l:List SV} {vs:List Value},bh β H l vs→bh β H (j5 k e.es l) vs
 | [],vs,h=>h
 | x::l,vs,h=>by
  simp only[bh,j5]at h ⊢;obtain⟨v,r,rfl,h1,h2,h3⟩:=h;exact⟨v,r,rfl,Lk k e.es x h1,oz hW hk hf h2,BG hW hk hf h3⟩
theorem nT(hW:cv C β H M w){k:Nat}{e:cx}(hk:ao M k=some e)(hf:e.fz=true):∀{l:List SV} {vs:List Value},bF β H l vs→bF β H (j5 k e.es l) vs
 | [],vs,h=>h
 | x::l,vs,h=>by
  simp only[bF,j5]at h ⊢;obtain⟨v,r,rfl,h2,h3⟩:=h;exact⟨v,r,rfl,oz hW hk hf h2,nT hW hk hf h3⟩
end
theorem BY(hW:cv C β H M w){k:Nat}{e:cx}(hk:ao M k=some e)(hf:e.fz=true){s:Nat}:∀{l:List SV} {vs:List Value},aU β H s l vs→aU β H s (j5 k e.es l) vs
 | [],vs,h=>h
 | x::l,vs,h=>by
  simp only[aU,j5]at h ⊢;obtain⟨v,r,rfl,h1,h2,h3⟩:=h;exact⟨v,r,rfl,h1,oz hW hk hf h2,BY hW hk hf h3⟩
theorem BC(hW:cv C β H M w){k:Nat}{e:cx}(hk:ao M k=some e)(hf:e.fz=true):∀{l:List SV} {ms:List MapEntry} {n:Nat},cH β H l ms n→cH β H (j5 k e.es l) ms n
 | [],ms,n,h=>h
 | x::l,ms,n,h=>by
  simp only[cH,j5]at h ⊢;obtain⟨key,y,m,r,rfl,h2,h3,h4,h5,h6,h7⟩:=h;exact⟨key,jT k e.es y,m,r,by simp only[jT,j5],h2,h3,h4,h5,oz hW hk hf h6,BC hW hk hf h7⟩
def Gs(k:Nat)(es:List SV)(M:aJ):aJ:=M.map fun oe=>oe.map fun e=>⟨e.sz,j5 k es e.es,e.fz⟩
def M5(k:Nat)(es:List SV)(fr:List (Nat × SV)):List (Nat × SV):=fr.map fun q=>(q.1,jT k es q.2)
theorem cv.sb(h:cv C β H M w){k:Nat}{e:cx}(hk:ao M k=some e)(hf:e.fz=true):cv C β H (Gs k e.es M) w:=by
 have at_:∀(i:Nat) (x:cx),(Gs k e.es M)[i]?=some (some x)→∃e0:cx,M[i]?=some (some e0)∧x=⟨e0.sz,j5 k e.es e0.es,e0.fz⟩:=fun i x hi=>by
  simp only[Gs,amf]at hi;cases hm:M[i]? with
  | none=>rw[hm]at hi;cases hi
  | some oe =>
   rw[hm]at hi;cases oe with
   | none=>simp at hi
   | some e0=>simp at hi;exact⟨e0,rfl,hi.symm⟩
 refine⟨h.os,h.tape,h.output,h.size,h.frame,h.ext,h.new,h.inv,fun i x hi=>?_,fun i x d hi hd=>?_,fun i i' e1 e2 d1 d2 hi hi' hd1 hd2 hb=>?_,fun i hi=>h.fresh i (by simpa[Gs]using hi),h.fU,h.eW⟩
 ·obtain⟨e0,he0,rfl⟩:=at_ i x hi;rcases h.da i e0 he0 with⟨h1,h2⟩ | ⟨d,cs,T,vs,h1,h2,h3,h4,h5,h6,h7,h8⟩ | ⟨d,ms,h1,h2,h3,h4⟩
  ·exact .inl ⟨h1,by simp[h2,j5]⟩
  ·refine .inr (.inl ⟨d,cs,T,vs,h1,h2,h3,h4,BY h hk hf h5,h6,h7,fun hfz=>?_⟩);obtain⟨g1,g2⟩:=h8 hfz;exact⟨g1,by simp only;rw[dR k e.es _ g2];exact g2⟩
  ·exact .inr (.inr ⟨d,ms,h1,h2,h3,BC h hk hf h4⟩)
 ·obtain⟨e0,he0,rfl⟩:=at_ i x hi;exact h.own i e0 d he0 hd
 ·obtain⟨e0,he0,rfl⟩:=at_ i e1 hi;obtain⟨e0',he0',rfl⟩:=at_ i' e2 hi';exact h.inj i i' e0 e0' d1 d2 he0 he0' hd1 hd2 hb
theorem Em{k:Nat}{es:List SV}:∀{fr:List (Nat × SV)} {t:Nat} {x:SV},get (M5 k es fr) t=some x→∃y,get fr t=some y∧x=jT k es y
 | [],t,x,h=>by simp[M5,get]at h
 | (s,y)::r,t,x,h=>by
  simp only[M5,amc,get]at h ⊢;split at h
  ·rename_i e;simp only[al0]at h;exact⟨y,by rw[if_pos e],h.symm⟩
  ·rename_i e;obtain⟨z,h1,h2⟩:=Em (fr:=r) h;exact⟨z,by rw[if_neg e];exact h1,h2⟩
def fg(k:Nat)(st:St):St:=match ao st.M k with
 | some e=>⟨st.n,M5 k e.es st.fr,Gs k e.es (aN st.M k (some ⟨e.sz,e.es,true⟩))⟩
 | none=>st
theorem Le.kE{st:St}(k:Nat){e:cx}(hk:ao st.M k=some e)(hp:SV.ba e.es=true):Le C st (fg k st):=by
 rintro a w ⟨β,H,hF,hW⟩;obtain⟨H',h1,h2⟩:=hW.freeze (aL hk) hp;rw[←ez]at h2;have hk':ao (aN st.M k (some ⟨e.sz,e.es,true⟩)) k=some ⟨e.sz,e.es,true⟩:=by
  rw[nw _ _ _ _ ⟨e,hk⟩,if_pos rfl]
 have hF':=hF.mono (β':=β) (H':=H') (fun _ _ h=>h) h1;unfold fg;rw[hk];show JO C ⟨st.n,M5 k e.es st.fr,Gs k e.es (aN st.M k (some ⟨e.sz,e.es,true⟩))⟩ a w;refine⟨β,H',⟨⟨hF'.1.1,hF'.1.2⟩,hF'.2.1,fun t x hg=>?_⟩,h2.sb (e:=⟨e.sz,e.es,true⟩) hk' rfl⟩;obtain⟨y,hy,rfl⟩:=Em hg;obtain⟨v,hv,hd⟩:=hF'.2.2 t y hy;exact⟨v,hv,oz (e:=⟨e.sz,e.es,true⟩) h2 hk' rfl hd⟩
theorem ae.kE{c:Code}{st:St}{Q:aV}(k:Nat){e:cx}(hk:ao st.M k=some e)(hp:SV.ba e.es=true)(h:ae P C c (fg k st) Q):ae P C c st Q:=ae.le (Le.kE k hk hp) h
def WQ(C:Ctx)(Q:aV):aV:=fun e st=>∃st',Le C st st'∧Q e st'
theorem Vi{C:Ctx}{Q:aV}:∀e a w,QQ C (WQ C Q) e a w→QQ C Q e a w:=fun e a w ⟨st,⟨st',h1,h2⟩,h3⟩=>⟨st',h2,h1 a w h3⟩
theorem ae.wk{c:Code}{st:St}{Q:aV}(h:ae P C c st (WQ C Q)):ae P C c st Q:=fun a w hs=>wp_mono (h a w hs) Vi
theorem il{f:FuncId}{fn:Func}{c:Code}{args:List SV}{Φ:SV→Prop}(hf:P.funcs[f]?=some fn)(hb:fn.body=some c)(hn:args.length≤fn.ntmps)
  (h:∀C:Ctx,C.fx=[]→vc P C c ⟨fn.ntmps,kO 0 args,[]⟩ (WQ C (jX P fn.results.toList Φ)) (WQ C (jX P fn.results.toList Φ))):nS P f args Φ :=
 ir hf hb hn fun C hC=>ae.wk (lN c _ (fun _ _ h=>h) (fun _ _ h=>h) (h C hC))
@[simp] theorem ZD{k:Nat}{es:List SV}:Gs k es []=[]:=rfl
@[simp] theorem WD{k:Nat}{es:List SV}{M:aJ}:Gs k es (none::M)=none::Gs k es M:=rfl
@[simp] theorem Ya{k sz:Nat}{es l:List SV}{f:Bool}{M:aJ}:Gs k es (some ⟨sz,l,f⟩::M)=some ⟨sz,j5 k es l,f⟩::Gs k es M:=rfl
@[simp] theorem ZL{k:Nat}{es:List SV}:M5 k es []=[]:=rfl
@[simp] theorem Tc{k t:Nat}{es:List SV}{x:SV}{fr:List (Nat × SV)}:M5 k es ((t,x)::fr)=(t,jT k es x)::M5 k es fr:=rfl
@[simp] theorem Za{k:Nat}{es:List SV}:j5 k es []=[]:=rfl
@[simp] theorem Ux{k:Nat}{es l:List SV}{x:SV}:j5 k es (x::l)=jT k es x::j5 k es l:=rfl
@[simp] theorem T0{k k' i n:Nat}{es:List SV}:jT k es (.view k' i n)=if k'=k∧i+n≤es.length then .ro ((es.drop i).take n) else .view k' i n:=by simp only[jT]
@[simp] theorem ac4{k k' i j:Nat}{es:List SV}:jT k es (.ptr k' i j)=if k'=k∧i<es.length∧(aA es i).aM=false then .bU (aA es i) j else .ptr k' i j:=by simp only[jT]
@[simp] theorem aco{k:Nat}{es l:List SV}:jT k es (.agg l)=.agg (j5 k es l):=by simp only[jT]
@[simp] theorem acR{k:Nat}{es l:List SV}:jT k es (.bG l)=.bG (j5 k es l):=by simp only[jT]
@[simp] theorem aaB{k:Nat}{es:List SV}{v:Value}:jT k es (.val v)=.val v:=by simp only[jT]
@[simp] theorem afj{k:Nat}{es l:List SV}:jT k es (.ro l)=.ro l:=by simp only[jT]
@[simp] theorem abK{k j:Nat}{es:List SV}{x:SV}:jT k es (.bU x j)=.bU x j:=by simp only[jT]
@[simp] theorem acG{k t g:Nat}{es:List SV}:jT k es (.fp t g)=.fp t g:=by simp only[jT]
@[simp] theorem acy{k:Nat}{es:List SV}:jT k es .any=.any:=by simp only[jT]
@[simp] theorem adB{k k':Nat}{es:List SV}:jT k es (.mp k')=.mp k':=by simp only[jT]
end
section
variable {P:Program} {C:Ctx} {β:bO} {H:Hp} {M:aJ} {w:World}
theorem ve:∀{n:Nat} {l:List SV},SV.ba l=true→SV.ba (l.take n)=true
 | 0,l,_=>by simp[SV.ba]
 | n+1,[],_=>by simp[SV.ba]
 | n+1,x::l,h=>by
  simp only[SV.ba,List.take_succ_cons,amS]at h ⊢;exact⟨h.1,ve h.2⟩
theorem cv.Mz(h:cv C β H M w){k:Nat}{e:cx}(hk:ao M k=some e)(hz:e.sz≠0)(n:Nat):cv C β H (aN M k (some ⟨e.sz,e.es.take n,e.fz⟩)) w:=by
 rw[ez];have hk':=aL hk;have back:∀(i:Nat) (x:cx),(M.set k (some ⟨e.sz,e.es.take n,e.fz⟩))[i]?=some (some x)→∃e0:cx,M[i]?=some (some e0)∧(x=e0∨(i=k∧x=⟨e.sz,e.es.take n,e.fz⟩∧e0=e)):=fun i x hi=>by
  rcases getElem?_set_cases hi with⟨rfl,he,_⟩ | ⟨_,hi'⟩
  ·simp only[al0]at he;exact⟨e,hk',.inr ⟨rfl,he.symm,rfl⟩⟩
  ·exact⟨x,hi',.inl rfl⟩
 refine⟨h.os,h.tape,h.output,h.size,h.frame,h.ext,h.new,h.inv,fun i x hi=>?_,fun i x d hi hd=>?_,fun i i' e1 e2 d1 d2 hi hi' hd1 hd2 hb=>?_,fun i hi=>h.fresh i (by simpa using hi),h.fU,h.eW⟩
 ·obtain⟨e0,he0,rfl | ⟨rfl,rfl,rfl⟩⟩:=back i x hi
  ·exact h.da i x he0
  ·rcases h.da i e0 he0 with⟨h1,h2⟩ | ⟨d,cs,T,vs,h1,h2,h3,h4,h5,h6,h7,h8⟩ | ⟨d,ms,h1,h2,h3,h4⟩
   rotate_left 2
   ·exact absurd h2.1 hz
   ·exact .inl ⟨h1,by simp[h2]⟩
   ·refine .inr (.inl ⟨d,cs,T,vs.take (n*e0.sz),h1,h2,h3,h4,h5.take n,by simp;omega,fun q hq=>?_,fun hf=>⟨(h8 hf).1,ve (h8 hf).2⟩⟩);simp only[anG]at hq;rw[amd (by omega)];exact h7 q (by omega)
 ·obtain⟨e0,he0,rfl | ⟨rfl,rfl,rfl⟩⟩:=back i x hi
  ·exact h.own i x d he0 hd
  ·exact h.own i e0 d he0 hd
 ·obtain⟨e0,he0, -⟩:=back i e1 hi;obtain⟨e0',he0', -⟩:=back i' e2 hi';exact h.inj i i' e0 e0' d1 d2 he0 he0' hd1 hd2 hb
theorem Le.Mz{st:St}(k n:Nat){e:cx}(hk:ao st.M k=some e)(hz:e.sz≠0):Le C st ⟨st.n,st.fr,aN st.M k (some ⟨e.sz,e.es.take n,e.fz⟩)⟩:=by
 rintro a w ⟨β,H,hF,hW⟩;exact⟨β,H,hF,hW.Mz hk hz n⟩
theorem ae.cq{c:Code}{st:St}{Q:aV}{ι:Type}(I:ι→St)(Cn:ι→Prop)(μ:ι→Nat)(i0:ι)(h0:Cn i0)(hl:ar C st (I i0))
  (hr:∀i,Cn i→vc P C c (I i) (qE (fun st'=>∃j,Cn j∧μ j<μ i∧Le C st' (I j)) Q) (qE (fun st'=>∃j,Cn j∧μ j<μ i∧Le C st' (I j)) Q)):ae P C (.loop c) st Q:=by
 intro a w hs;refine pC (fun i a w=>Cn i∧JO C (I i) a w) μ i0 ⟨h0,Le.ct hl a w hs⟩ ?_;rintro i a w ⟨hc,hs⟩;refine wp_mono (lN c _ (fun _ _ h=>h) (fun _ _ h=>h) (hr i hc) a w hs) ?_;rintro e a' w' ⟨st',h1,h2⟩;cases e<;>simp only[qE,Exit.then]at h1 ⊢<;>first | exact⟨st',h1,h2⟩ | skip
 obtain⟨j,g1,g2,g3⟩:=h1;exact⟨j,⟨g1,g3 a' w' h2⟩,g2⟩
theorem Le.cJ{st:St}(k j s:Nat){e:cx}{l:List SV}(hk:ao st.M k=some e)(hes:e.es=[.agg l])(hfz:e.fz=false)(hj:aA l j=.val (.slice none 0 0))(hjl:j<l.length) :
  Le C st ⟨st.n,st.fr,aN st.M k (some ⟨e.sz,[.agg (bD l j (.view st.M.length 0 0))],false⟩)++[some ⟨s,[],false⟩]⟩:=by
 rintro a w ⟨β,H,hF,hW⟩;have hk':=aL hk;have hkl:k<st.M.length:=by
  rcases amz k st.M.length with h' | h'
  ·exact h'
  ·rw[al2 h']at hk';cases hk'
 have hW2:=hW.nil s;refine⟨β.dT st.M.length none,H,hF.mono (fS hW none) (fun _ _ h=>h),?_⟩;have hden:∀{l:List SV} {vs:List Value} {j:Nat},bh (β.dT st.M.length none) H l vs→aA l j=.val (.slice none 0 0)→j<l.length→bh (β.dT st.M.length none) H (bD l j (.view st.M.length 0 0)) vs:=by
  intro l
  induction l with
  | nil=>intro vs j _ _ hj;simp at hj
  | cons x l ih =>
   intro vs j h hj hjl;simp only[bh]at h;obtain⟨v,r,rfl,h1,h2,h3⟩:=h;cases j with
   | zero =>
    simp only[aA]at hj;subst hj;simp only[bD,bh];refine⟨v,r,rfl,rfl,?_,h3⟩;simp only[Den]at h2 ⊢;left;exact⟨by simp[bO.dT],trivial,trivial,h2.1⟩
   | succ j =>
    simp only[bD,bh];exact⟨v,r,rfl,h1,h2,ih h3 (by simpa[aA]using hj) (by simpa using hjl)⟩
 have e1:aN st.M k (some ⟨e.sz,[.agg (bD l j (.view st.M.length 0 0))],false⟩)++[some (⟨s,[],false⟩:cx)]=(st.M++[some (⟨s,[],false⟩:cx)]).set k (some ⟨e.sz,[.agg (bD l j (.view st.M.length 0 0))],false⟩):=by
  rw[ez,List.set_append_left _ _ hkl]
 show cv C _ H (aN st.M k _++_) w;rw[e1];have hkM:(st.M++[some (⟨s,[],false⟩:cx)])[k]?=some (some e):=by rw[alX hkl];exact hk'
 refine⟨hW2.os,hW2.tape,hW2.output,hW2.size,hW2.frame,hW2.ext,hW2.new,hW2.inv,fun i x hi=>?_,fun i x d hi hd=>?_,fun i i' x1 x2 d1 d2 hi hi' hd1 hd2 hb=>?_,fun i hi=>hW2.fresh i (by simpa using hi),hW2.fU,hW2.eW⟩
 ·rcases getElem?_set_cases hi with⟨rfl,he,_⟩ | ⟨_,hi'⟩
  ·simp only[al0]at he;subst he;rcases hW2.da i e hkM with⟨h1,h2⟩ | ⟨d,cs,T,vs,h1,h2,h3,h4,h5,h6,h7,h8⟩ | ⟨d,ms,h1,h2,h3,h4⟩
   rotate_left 2
   ·rw[hes]at h4;obtain⟨q,hq⟩:=h4.Fu 0 (by simp);simp[aA]at hq
   ·rw[hes]at h2;cases h2
   ·refine .inr (.inl ⟨d,cs,T,vs,h1,h2,h3,h4,?_,h6,h7,fun hf=>by cases hf⟩);rw[hes]at h5;simp only[aU]at h5 ⊢;obtain⟨v,r,rfl,g1,g2,g3⟩:=h5;refine⟨v,r,rfl,g1,?_,g3⟩;simp only[Den]at g2 ⊢;obtain⟨us,rfl,g4⟩:=g2;exact⟨us,rfl,hden g4 hj hjl⟩
  ·exact hW2.da i x hi'
 ·rcases getElem?_set_cases hi with⟨rfl,he,_⟩ | ⟨_,hi'⟩
  ·simp only[al0]at he;subst he;have:=hW2.own i e d hkM hd;exact⟨fun _=>this.1 hfz,this.2⟩
  ·exact hW2.own i x d hi' hd
 ·have aux:∀(q:Nat) (x:cx),((st.M++[some (⟨s,[],false⟩:cx)]).set k (some ⟨e.sz,[.agg (bD l j (.view st.M.length 0 0))],false⟩))[q]?=some (some x)→∃x0:cx,(st.M++[some (⟨s,[],false⟩:cx)])[q]?=some (some x0):=fun q x hq=>by
   rcases getElem?_set_cases hq with⟨rfl,_,_⟩ | ⟨_,hq'⟩
   ·exact⟨e,hkM⟩
   ·exact⟨x,hq'⟩
  obtain⟨y1,hy1⟩:=aux i x1 hi;obtain⟨y2,hy2⟩:=aux i' x2 hi';exact hW2.inj i i' y1 y2 d1 d2 hy1 hy2 hd1 hd2 hb
end
mutual
def iR:SV→SV
 | .val (.slice none 0 0)=>.ro []
 | .val v=>.val v
 | .agg l=>.agg (jQ l)
 | .bG l=>.bG (jQ l)
 | .iw t x=>.iw t (iR x)
 | x=>x
def jQ:List SV→List SV
 | []=>[]
 | x::l=>iR x::jQ l
end
theorem uu{v:Value}:iR (.val v)=.val v∨(v=.slice none 0 0∧iR (.val v)=.ro []):=by
 by_cases h:v=.slice none 0 0
 ·right;subst h;exact⟨rfl,rfl⟩
 ·left;unfold iR;split<;>simp_all
theorem Lf(x:SV)(h:x.one=true):(iR x).one=true:=by
 cases x with
 | val v=>rcases uu (v:=v)with e | ⟨_,e⟩<;>rw[e];exact h;rfl
 | agg l=>cases h
 | bG l=>cases h
 | _=>rfl
section
variable {P:Program} {C:Ctx} {β:bO} {H:Hp} {M:aJ} {w:World}
mutual
theorem ou:∀{x:SV} {v:Value},Den β H x v→Den β H (iR x) v
 | .val u,v,h=>by
  rcases uu (v:=u)with e | ⟨e1,e⟩
  ·rw[e];exact h
  ·rw[e];subst e1;simp only[Den]at h ⊢;left;exact⟨trivial,_,_,h.1⟩
 | .agg l,v,h=>by
  simp only[Den,iR]at h ⊢;obtain⟨vs,rfl,h⟩:=h;exact⟨vs,rfl,Av h⟩
 | .bG l,v,h=>by
  simp only[Den,iR]at h ⊢;obtain⟨vs,rfl,h⟩:=h;exact⟨vs,rfl,qL h⟩
 | .iw t x,v,h=>by
  simp only[Den,iR]at h ⊢;obtain⟨u,rfl,h⟩:=h;exact⟨u,rfl,ou h⟩
 | .gA f l r,v,h=>h
 | .view _ _ _,v,h=>h
 | .ptr _ _ _,v,h=>h
 | .ro _,v,h=>h
 | .bU _ _,v,h=>h
 | .fp _ _,v,h=>h
 | .any,v,h=>h
 | .mp _,v,h=>h
theorem Av:∀{l:List SV} {vs:List Value},bh β H l vs→bh β H (jQ l) vs
 | [],vs,h=>h
 | x::l,vs,h=>by
  simp only[bh,jQ]at h ⊢;obtain⟨v,r,rfl,h1,h2,h3⟩:=h;exact⟨v,r,rfl,Lf x h1,ou h2,Av h3⟩
theorem qL:∀{l:List SV} {vs:List Value},bF β H l vs→bF β H (jQ l) vs
 | [],vs,h=>h
 | x::l,vs,h=>by
  simp only[bF,jQ]at h ⊢;obtain⟨v,r,rfl,h2,h3⟩:=h;exact⟨v,r,rfl,ou h2,qL h3⟩
end
theorem Br{s:Nat}:∀{l:List SV} {vs:List Value},aU β H s l vs→aU β H s (jQ l) vs
 | [],vs,h=>h
 | x::l,vs,h=>by
  simp only[aU,jQ]at h ⊢;obtain⟨v,r,rfl,h1,h2,h3⟩:=h;exact⟨v,r,rfl,h1,ou h2,Br h3⟩
mutual
theorem At:∀{x:SV},x.pure=true→(iR x).pure=true
 | .val u,h=>by
  rcases uu (v:=u)with e | ⟨e1,e⟩<;>rw[e]<;>rfl
 | .agg l,h=>by simp only[iR,SV.pure]at h ⊢;exact ry h
 | .bG l,h=>by simp only[iR,SV.pure]at h ⊢;exact ry h
 | .iw t x,h=>by simp only[iR,SV.pure]at h ⊢;exact At h
 | .gA f l r,h=>h
 | .view _ _ _,h=>h
 | .ptr _ _ _,h=>h
 | .ro _,h=>h
 | .bU _ _,h=>h
 | .fp _ _,h=>h
 | .any,h=>h
 | .mp _,h=>h
theorem ry:∀{l:List SV},SV.ba l=true→SV.ba (jQ l)=true
 | [],h=>h
 | x::l,h=>by
  simp only[SV.ba,jQ,amS]at h ⊢;exact⟨At h.1,ry h.2⟩
end
theorem As:∀{l:List SV} {ms:List MapEntry} {n:Nat},cH β H l ms n→(∀x∈l,∀u y,x=.bG [.val u,y]→iR (.val u)=.val u)→cH β H (jQ l) ms n
 | [],ms,n,h,_=>h
 | x::l,ms,n,h,hn=>by
  simp only[cH,jQ]at h ⊢;obtain⟨key,y,m,r,rfl,h2,h3,h4,h5,h6,h7⟩:=h;refine⟨key,iR y,m,r,by simp only[iR,jQ];rw[hn (.bG [.val key,y]) (List.mem_cons_self ..) key y rfl],h2,h3,h4,h5,ou h6,As h7 fun x hx=>hn x (by simp[hx])⟩
theorem Eb:∀{l:List SV} {ms:List MapEntry} {n:Nat},cH β H l ms n→∀x∈l,∀u y,x=.bG [.val u,y]→iR (.val u)=.val u
 | [],ms,n,h,x,hx,_,_,_=>by cases hx
 | z::l,ms,n,h,x,hx,u,y,e=>by
  simp only[cH]at h;obtain⟨key,y',m,r,rfl,h2,h3,h4,h5,h6,h7⟩:=h;rcases amM.1 hx with rfl | hx
  ·simp only[SV.bG.injEq,List.cons.injEq,SV.val.injEq]at e;obtain⟨rfl, -⟩:=e;rcases uu (v:=key)with e | ⟨e1, -⟩
   ·exact e
   ·subst e1;cases h4
  ·exact Eb h7 x hx u y e
def xd(M:aJ):aJ:=M.map fun oe=>oe.map fun e=>⟨e.sz,jQ e.es,e.fz⟩
def EO(fr:List (Nat × SV)):List (Nat × SV):=fr.map fun q=>(q.1,iR q.2)
theorem cv.nl(h:cv C β H M w):cv C β H (xd M) w:=by
 have at_:∀(i:Nat) (x:cx),(xd M)[i]?=some (some x)→∃e0:cx,M[i]?=some (some e0)∧x=⟨e0.sz,jQ e0.es,e0.fz⟩:=fun i x hi=>by
  simp only[xd,amf]at hi;cases hm:M[i]? with
  | none=>rw[hm]at hi;cases hi
  | some oe =>
   rw[hm]at hi;cases oe with
   | none=>simp at hi
   | some e0=>simp at hi;exact⟨e0,rfl,hi.symm⟩
 refine⟨h.os,h.tape,h.output,h.size,h.frame,h.ext,h.new,h.inv,fun i x hi=>?_,fun i x d hi hd=>?_,fun i i' e1 e2 d1 d2 hi hi' hd1 hd2 hb=>?_,fun i hi=>h.fresh i (by simpa[xd]using hi),h.fU,h.eW⟩
 ·obtain⟨e0,he0,rfl⟩:=at_ i x hi;rcases h.da i e0 he0 with⟨h1,h2⟩ | ⟨d,cs,T,vs,h1,h2,h3,h4,h5,h6,h7,h8⟩ | ⟨d,ms,h1,h2,h3,h4⟩
  ·exact .inl ⟨h1,by simp[h2,jQ]⟩
  ·exact .inr (.inl ⟨d,cs,T,vs,h1,h2,h3,h4,Br h5,h6,h7,fun hfz=>⟨(h8 hfz).1,ry (h8 hfz).2⟩⟩)
  ·exact .inr (.inr ⟨d,ms,h1,h2,h3,As h4 (Eb h4)⟩)
 ·obtain⟨e0,he0,rfl⟩:=at_ i x hi;exact h.own i e0 d he0 hd
 ·obtain⟨e0,he0,rfl⟩:=at_ i e1 hi;obtain⟨e0',he0',rfl⟩:=at_ i' e2 hi';exact h.inj i i' e0 e0' d1 d2 he0 he0' hd1 hd2 hb
theorem Eg:∀{fr:List (Nat × SV)} {t:Nat} {x:SV},get (EO fr) t=some x→∃y,get fr t=some y∧x=iR y
 | [],t,x,h=>by simp[EO,get]at h
 | (s,y)::r,t,x,h=>by
  simp only[EO,amc,get]at h ⊢;split at h
  ·rename_i e;simp only[al0]at h;exact⟨y,by rw[if_pos e],h.symm⟩
  ·rename_i e;obtain⟨z,h1,h2⟩:=Eg (fr:=r) h;exact⟨z,by rw[if_neg e];exact h1,h2⟩
def Tn(st:St):St:=⟨st.n,EO st.fr,xd st.M⟩
theorem Le.nl(st:St):Le C st (Tn st):=by
 rintro a w ⟨β,H,hF,hW⟩;refine⟨β,H,⟨⟨hF.1.1,hF.1.2⟩,hF.2.1,fun t x hg=>?_⟩,hW.nl⟩;obtain⟨y,hy,rfl⟩:=Eg hg;obtain⟨v,hv,hd⟩:=hF.2.2 t y hy;exact⟨v,hv,ou hd⟩
@[simp] theorem Zj:xd []=[]:=rfl
@[simp] theorem T8{M:aJ}:xd (none::M)=none::xd M:=rfl
@[simp] theorem S0{sz:Nat}{l:List SV}{f:Bool}{M:aJ}:xd (some ⟨sz,l,f⟩::M)=some ⟨sz,jQ l,f⟩::xd M:=rfl
@[simp] theorem ZH:EO []=[]:=rfl
@[simp] theorem Xm{t:Nat}{x:SV}{fr:List (Nat × SV)}:EO ((t,x)::fr)=(t,iR x)::EO fr:=rfl
@[simp] theorem Yy:jQ []=[]:=rfl
@[simp] theorem TB{l:List SV}{x:SV}:jQ (x::l)=iR x::jQ l:=rfl
@[simp] theorem YJ:iR (.val (.slice none 0 0))=.ro []:=rfl
@[simp] theorem aaU{k:IntKind}{n:Int}:iR (.val (.int k n))=.val (.int k n):=rfl
@[simp] theorem Vg{b:Bool}:iR (.val (.bool b))=.val (.bool b):=rfl
@[simp] theorem abS{b:ByteArray}:iR (.val (.string b))=.val (.string b):=rfl
@[simp] theorem Rt:iR (.val .nilIface)=.val .nilIface:=rfl
@[simp] theorem TQ:iR (.val (.pointer none))=.val (.pointer none):=rfl
@[simp] theorem acS{l:List SV}:iR (.agg l)=.agg (jQ l):=by simp only[iR]
@[simp] theorem aaP{l:List SV}:iR (.bG l)=.bG (jQ l):=by simp only[iR]
@[simp] theorem WR{k i n:Nat}:iR (.view k i n)=.view k i n:=by simp only[iR]
@[simp] theorem abw{k i n:Nat}:iR (.ptr k i n)=.ptr k i n:=by simp only[iR]
@[simp] theorem aeq{l:List SV}:iR (.ro l)=.ro l:=by simp only[iR]
@[simp] theorem abY{x:SV}{j:Nat}:iR (.bU x j)=.bU x j:=by simp only[iR]
@[simp] theorem ab7{t g:Nat}:iR (.fp t g)=.fp t g:=by simp only[iR]
end
end Go.Sv
namespace Go.Sv
open Go Go.RowKit
mutual
def gJ(σ:Nat→Nat):SV→SV
 | .ptr k i j=>.ptr (σ k) i j
 | .view k i n=>.view (σ k) i n
 | .mp k=>.mp (σ k)
 | .agg l=>.agg (dC σ l)
 | .bG l=>.bG (dC σ l)
 | .iw t x=>.iw t (gJ σ x)
 | .gA f l r=>.gA f (dC σ l) (dC σ r)
 | .val v=>.val v
 | .ro l=>.ro l
 | .bU x j=>.bU x j
 | .fp t g=>.fp t g
 | .any=>.any
def dC(σ:Nat→Nat):List SV→List SV
 | []=>[]
 | x::l=>gJ σ x::dC σ l
end
mutual
theorem wq(σ:Nat→Nat):∀x:SV,x.pure=true→gJ σ x=x
 | .ptr _ _ _,h=>by simp[SV.pure]at h
 | .view _ _ _,h=>by simp[SV.pure]at h
 | .mp _,h=>by simp[SV.pure]at h
 | .agg l,h=>by simp only[gJ];rw[cY σ l (by simpa[SV.pure]using h)]
 | .bG l,h=>by simp only[gJ];rw[cY σ l (by simpa[SV.pure]using h)]
 | .iw _ x,h=>by simp only[gJ];rw[wq σ x (by simpa[SV.pure]using h)]
 | .gA _ l r,h=>by
  simp only[SV.pure,amS]at h;simp only[gJ];rw[cY σ l h.1,cY σ r h.2]
 | .val _,_=>rfl
 | .ro _,_=>rfl
 | .bU _ _,_=>rfl
 | .fp _ _,_=>rfl
 | .any,_=>rfl
theorem cY(σ:Nat→Nat):∀l:List SV,SV.ba l=true→dC σ l=l
 | [],_=>rfl
 | x::l,h=>by
  simp only[SV.ba,amS]at h;simp only[dC];rw[wq σ x h.1,cY σ l h.2]
end
mutual
theorem Ar(σ:Nat→Nat):∀x:SV,(gJ σ x).pure=x.pure
 | .ptr _ _ _=>rfl
 | .view _ _ _=>rfl
 | .mp _=>rfl
 | .agg l=>by simp only[gJ,SV.pure];exact j4 σ l
 | .bG l=>by simp only[gJ,SV.pure];exact j4 σ l
 | .iw _ x=>by simp only[gJ,SV.pure];exact Ar σ x
 | .gA _ l r=>by simp only[gJ,SV.pure];rw[j4 σ l,j4 σ r]
 | .val _=>rfl
 | .ro _=>rfl
 | .bU _ _=>rfl
 | .fp _ _=>rfl
 | .any=>rfl
theorem j4(σ:Nat→Nat):∀l:List SV,SV.ba (dC σ l)=SV.ba l
 | []=>rfl
 | x::l=>by simp only[dC,SV.ba];rw[Ar σ x,j4 σ l]
end
theorem JW(σ:Nat→Nat)(x:SV):(gJ σ x).one=x.one:=by cases x<;>rfl
section
variable {β:bO} {H:Hp} {σ:Nat→Nat}
mutual
theorem kR:∀{x:SV} {v:Value},Den β H (gJ σ x) v↔Den (fun k=>β (σ k)) H x v
 | .ptr _ _ _,_=>by simp only[gJ,Den]
 | .view _ _ _,_=>by simp only[gJ,Den]
 | .mp _,_=>by simp only[gJ,Den]
 | .agg l,v=>by simp only[gJ,Den];exact exists_congr fun vs=>and_congr Iff.rfl AJ
 | .bG l,v=>by simp only[gJ,Den];exact exists_congr fun vs=>and_congr Iff.rfl m8
 | .iw _ x,v=>by simp only[gJ,Den];exact exists_congr fun u=>and_congr Iff.rfl kR
 | .gA _ l r,v=>by simp only[gJ,Den];exact exists_congr fun vs=>exists_congr fun ws=>and_congr Iff.rfl (and_congr m8 m8)
 | .val _,_=>by simp only[gJ,Den]
 | .ro _,_=>by simp only[gJ,Den]
 | .bU _ _,_=>by simp only[gJ,Den]
 | .fp _ _,_=>by simp only[gJ,Den]
 | .any,_=>by simp only[gJ,Den]
theorem AJ:∀{l:List SV} {vs:List Value},bh β H (dC σ l) vs↔bh (fun k=>β (σ k)) H l vs
 | [],_=>by simp only[dC,bh]
 | x::l,vs=>by
  simp only[dC,bh,JW];exact exists_congr fun v=>exists_congr fun r=>and_congr Iff.rfl (and_congr Iff.rfl (and_congr kR AJ))
theorem m8:∀{l:List SV} {vs:List Value},bF β H (dC σ l) vs↔bF (fun k=>β (σ k)) H l vs
 | [],_=>by simp only[dC,bF]
 | x::l,vs=>by
  simp only[dC,bF];exact exists_congr fun v=>exists_congr fun r=>and_congr Iff.rfl (and_congr kR m8)
end
theorem AQ{s:Nat}:∀{l:List SV} {vs:List Value},aU β H s (dC σ l) vs↔aU (fun k=>β (σ k)) H s l vs
 | [],_=>by simp only[dC,aU]
 | x::l,vs=>by
  simp only[dC,aU];exact exists_congr fun v=>exists_congr fun r=>and_congr Iff.rfl (and_congr Iff.rfl (and_congr kR AQ))
theorem vM:∀{l:List SV} {ms:List MapEntry} {n:Nat},cH β H (dC σ l) ms n↔cH (fun k=>β (σ k)) H l ms n
 | [],_,_=>by simp only[dC,cH]
 | x::l,ms,n=>by
  simp only[dC,cH];constructor
  ·rintro⟨key,y,m,r,e,h2,h3,h4,h5,h6,h7⟩;cases x with
   | bG q =>
    simp only[gJ,SV.bG.injEq]at e
    match q,e with
    | [a,b],e =>
     simp only[dC,List.cons.injEq,and_true]at e;obtain⟨e1,rfl⟩:=e;cases a<;>simp only[gJ,SV.val.injEq,reduceCtorEq]at e1;subst e1;exact⟨_,b,m,r,rfl,h2,h3,h4,h5,kR.1 h6,vM.1 h7⟩
    | [],e=>simp[dC]at e
    | [a],e=>simp[dC]at e
    | a::b::c::d,e=>simp[dC]at e
   | _=>simp[gJ]at e
  ·rintro⟨key,y,m,r,rfl,h2,h3,h4,h5,h6,h7⟩;exact⟨key,gJ σ y,m,r,by simp only[gJ,dC],h2,h3,h4,h5,kR.2 h6,vM.2 h7⟩
end
def jj(σ:Nat→Nat)(e:cx):cx:=⟨e.sz,dC σ e.es,e.fz⟩
theorem H2{σ:Nat→Nat}{l:List SV}:dC σ l=[]↔l=[]:=by cases l<;>simp[dC]
theorem nY.gJ{β:bO}{H:Hp}{σ:Nat→Nat}{e:cx}{k:Nat}{w:World}:nY β H (jj σ e) (σ k) w↔nY (fun i=>β (σ i)) H e k w:=by
 unfold nY jj;simp only[AQ,vM,j4,H2]
def sg:List Nat→Nat→Nat→Nat
 | [],m,i=>m+i
 | k::_,_,0=>k
 | _::s,m,i+1=>sg s m i
def rh(σ:Nat→Nat):aJ→List Nat→aJ→aJ
 | M,k::s,e::T=>rh σ (aN M k (e.map (jj σ))) s T
 | M,_,T=>M++T.map fun e=>e.map (jj σ)
def k9(σ:Nat→Nat)(M:aJ):List Nat→aJ→Prop
 | k::s,some e::T=>ao M k=some (jj σ e)∧k9 σ M s T
 | [],[]=>True
 | _,_=>False
def GO(s:List Nat)(k:Nat):Nat→aJ→Bool
 | _,[]=>true
 | i,none::M=>GO s k (i+1) M
 | i,some e::M=>(s.contains i||!SV.aX k e.es)&&GO s k (i+1) M
def lM:List Nat→aJ→aJ
 | [],M=>M
 | k::ks,M=>lM ks (Cq k M)
theorem HK{s:List Nat}{m i:Nat}(h:i<s.length):∃k∈s,sg s m i=k:=by
 induction s generalizing i with
 | nil=>simp at h
 | cons a s ih=>cases i with
  | zero=>exact⟨a,by simp,rfl⟩
  | succ i =>
   obtain⟨k,h1,h2⟩:=ih (i:=i) (by simpa using h);exact⟨k,by simp[h1],h2⟩
theorem M3{s:List Nat}{m i:Nat}(h:s.length≤i):sg s m i=m+(i - s.length):=by
 induction s generalizing i with
 | nil=>simp[sg]
 | cons a s ih=>cases i with
  | zero=>simp at h
  | succ i=>simp only[sg,List.length_cons];rw[ih (by simpa using h)];congr 1;omega
theorem H9{s:List Nat}{m k:Nat}(h:k∈s):∃i,i<s.length∧sg s m i=k:=by
 induction s with
 | nil=>cases h
 | cons a s ih =>
  rcases amM.1 h with rfl | h
  ·exact⟨0,by simp,rfl⟩
  ·obtain⟨i,h1,h2⟩:=ih h;exact⟨i+1,by simpa using h1,h2⟩
theorem NF{s:List Nat}{m:Nat}(hd:s.Nodup)(hm:∀k∈s,k<m):∀{i j:Nat},sg s m i=sg s m j→i=j:=by
 induction s with
 | nil=>intro i j h;simp only[sg]at h;omega
 | cons a s ih =>
  have hd':=List.nodup_cons.1 hd;have key:∀i,sg s m i=a→False:=fun i h=>by
   rcases amz i s.length with h' | h'
   ·obtain⟨k,h1,h2⟩:=HK (m:=m) h';rw[h2]at h;subst h;exact hd'.1 h1
   ·rw[M3 h']at h;have:=hm a (by simp);omega
  intro i j h;cases i with
  | zero=>cases j with
   | zero=>rfl
   | succ j=>exact(key j h.symm).elim
  | succ i=>cases j with
   | zero=>exact(key i h).elim
   | succ j=>rw[ih hd'.2 (fun k hk=>hm k (by simp[hk])) h]
theorem x7{σ:Nat→Nat}:∀{s:List Nat} {T M:aJ} {i:Nat} {e':cx},s.length≤T.length→(rh σ M s T)[i]?=some (some e') →
  (∃(k:Nat) (e:cx),sg s M.length k=i∧T[k]?=some (some e)∧e'=jj σ e)∨((∀k,k<T.length→sg s M.length k≠i)∧M[i]?=some (some e'))
 | [],T,M,i,e',_,h=>by
  cases T with
  | nil =>
   simp only[rh,List.map_nil,List.append_nil]at h;exact .inr ⟨fun k hk=>by simp at hk,h⟩
  | cons t T =>
   simp only[rh]at h;rcases amz i M.length with hi | hi
   ·rw[alX hi]at h;exact .inr ⟨fun k _=>by simp only[sg];omega,h⟩
   ·rw[List.getElem?_append_right hi,amf]at h;left;cases ht:(t::T)[i - M.length]? with
    | none=>rw[ht]at h;cases h
    | some oe =>
     rw[ht]at h;cases oe with
     | none=>simp at h
     | some e=>simp at h;exact⟨i - M.length,e,by simp only[sg];omega,ht,h.symm⟩
 | a::s,[],M,i,e',hl,h=>by simp at hl
 | a::s,t::T,M,i,e',hl,h=>by
  simp only[rh]at h;rcases x7 (s:=s) (by simpa using hl) h with⟨k,e,h1,h2,h3⟩ | ⟨h1,h2⟩
  ·rw[rn]at h1;exact .inl ⟨k+1,e,h1,by simpa using h2,h3⟩
  ·rw[rn]at h1;rw[ez]at h2;rcases getElem?_set_cases h2 with⟨rfl,he,_⟩ | ⟨hne,hi'⟩
   ·cases t with
    | none=>simp at he
    | some e=>simp at he;exact .inl ⟨0,e,rfl,by simp,he.symm⟩
   ·refine .inr ⟨fun k hk=>?_,hi'⟩;cases k with
    | zero=>exact Ne.symm hne
    | succ k=>exact h1 k (by simpa using hk)
theorem Ca{σ:Nat→Nat}:∀{s:List Nat} {T M:aJ},s.length≤T.length→(rh σ M s T).length=M.length+(T.length - s.length)
 | [],T,M,_=>by cases T<;>simp[rh]
 | a::s,[],M,hl=>by simp at hl
 | a::s,t::T,M,hl=>by
  simp only[rh];rw[Ca (by simpa using hl),rn];simp
theorem sH{σ:Nat→Nat}{M:aJ}:∀{s:List Nat} {T:aJ} {m:Nat},k9 σ M s T→s.length=T.length∧∀i,i<s.length→∃e:cx,T[i]?=some (some e)∧ao M (sg s m i)=some (jj σ e)
 | [],[],_,_=>⟨rfl,fun i hi=>by simp at hi⟩
 | k::s,some e::T,m,h=>by
  simp only[k9]at h;obtain⟨h1,h2⟩:=sH (m:=m) h.2;refine⟨by simp[h1],fun i hi=>?_⟩;cases i with
  | zero=>exact⟨e,rfl,h.1⟩
  | succ i=>simpa[sg]using h2 i (by simpa using hi)
 | [],_::_,_,h=>by simp[k9]at h
 | _::_,[],_,h=>by simp[k9]at h
 | _::_,none::_,_,h=>by simp[k9]at h
theorem CH{s:List Nat}{k:Nat}:∀{M:aJ} {o i:Nat} {e:cx},GO s k o M=true→M[i]?=some (some e)→o+i∉s→SV.aX k e.es=false
 | [],o,i,e,_,h,_=>by simp at h
 | none::M,o,i,e,h,hi,hs=>by
  simp only[GO]at h;cases i with
  | zero=>simp at hi
  | succ i=>exact CH h (by simpa using hi) (by rw[show o+1+i=o+(i+1) by omega];exact hs)
 | some e0::M,o,i,e,h,hi,hs=>by
  simp only[GO,amS,Bool.or_eq_true,Bool.not_eq_true',List.contains_iff_mem]at h;cases i with
  | zero =>
   simp only[List.getElem?_cons_zero,al0]at hi;subst hi;exact h.1.resolve_left (by simpa using hs)
  | succ i=>exact CH h.2 (by simpa using hi) (by rw[show o+1+i=o+(i+1) by omega];exact hs)
theorem Lq(k:Nat)(M:aJ):(Cq k M).length=M.length:=by unfold Cq uN;split<;>simp
theorem Bp:∀(ks:List Nat) (M:aJ),(lM ks M).length=M.length
 | [],M=>rfl
 | k::ks,M=>by simp only[lM];rw[Bp,Lq]
theorem cv.lM{C:Ctx}{β:bO}{H:Hp}{w:World}:∀{ks:List Nat} {M:aJ},cv C β H M w→cv C β H (Sv.lM ks M) w
 | [],_,h=>h
 | k::ks,M,h=>by simp only[Sv.lM];exact cv.lM (h.Cq k)
def mw(P:Program)(f:FuncId)(args:List SV)(T:aJ)(pk:List Nat)(Φ:aJ→SV→Prop):Prop :=
 ∀C:Ctx,C.fx=[]→dH P C f args T none fun T' pk' x=>pk'=pk∧∃T1 y,Φ T1 y∧x=y∧iS T' T1∧T.length≤T1.length∧(T'.length=T1.length∨(y.lt T1.length=true∧j6 T1.length T1))
section
variable {P:Program} {C:Ctx}
def Lv(T:aJ)(pk:List Nat)(Φ:aJ→SV→Prop):aJ→List Nat→SV→Prop:=fun T' pk' x=>pk'=pk∧∃T1 y,Φ T1 y∧x=y∧iS T' T1∧T.length≤T1.length∧(T'.length=T1.length∨(y.lt T1.length=true∧j6 T1.length T1))
theorem sR{f:FuncId}{fn:Func}{c:Code}{args:List SV}{T:aJ}{pk:List Nat}{Φ:aJ→SV→Prop}(hf:P.funcs[f]?=some fn)(hb:fn.body=some c)(hn:args.length≤fn.ntmps)
  (h:∀C':Ctx,C'.fx=(amP T.length).filter (fun i=>!pk.contains i)→vc P C' c ⟨fn.ntmps,kO 0 args,T⟩ (l8 P fn.results.toList pk (Lv T pk Φ)) (l8 P fn.results.toList pk (Lv T pk Φ))):mw P f args T pk Φ:=by
 intro C hC;exact eI hf hb hn pk (fun i _ hi=>by rw[hC]at hi;cases hi) (fun ks h=>by cases h) h
def mz(β:bO)(n:Nat):bO:=fun k=>if k<n then β k else none
theorem cv.Yb{β:bO}{H:Hp}{M M':aJ}{w:World}(h:cv C β H M w)(hle:iS M M')(hj:M.length=M'.length∨j6 M'.length M')(hfx:C.fx=[]):cv C (mz β M'.length) H M' w:=by
 have hget:=yN hle;have aF:∀k e,M'[k]?=some (some e)→k<M'.length:=fun k e hk=>by
  rcases amz k M'.length with h' | h'
  ·exact h'
  ·rw[al2 h']at hk;cases hk
 have hin:∀(k:Nat) (e:cx),M'[k]?=some (some e)→∀j d,SV.aX j e.es=true→β j=some d→mz β M'.length j=some d:=fun k e hk j d hu hd=>by
  have:j<M'.length:=by
   rcases hj with hj | hj
   ·rcases amz j M'.length with h' | h'
    ·exact h'
    ·rw[h.fresh j (by omega)]at hd;cases hd
   ·rcases amz j M'.length with h' | h'
    ·exact h'
    ·rw[SV.kb h' _ (tX hj k e hk)]at hu;cases hu
  simp[mz,this,hd]
 have hc:∀{k d},k<M'.length→mz β M'.length k=some d→β k=some d:=fun hk hd=>by simpa[mz,hk]using hd
 refine⟨h.os,h.tape,h.output,h.size,h.frame,h.ext,h.new,h.inv,fun k e hk=>?_,fun k e d hk hd=>h.own k e d (hget k e hk) (hc (aF k e hk) hd),
  fun k k' e e' d d' hk hk' hd hd'=>h.inj k k' e e' d d' (hget k e hk) (hget k' e' hk') (hc (aF k e hk) hd) (hc (aF k' e' hk') hd'),fun k hk=>by simp[mz];omega,fun k d hk=>(by rw[hfx]at hk;cases hk),h.eW⟩
 have hb:∀d,β k=some d→mz β M'.length k=some d:=fun d hd=>by simp[mz,aF k e hk,hd]
 rcases h.da k e (hget k e hk)with⟨g1,g2⟩ | ⟨d,cs,T,vs,g1,g2,g3,g4,g5,g6⟩ | ⟨d,ms,g1,g2,g3,g4⟩
 ·exact .inl ⟨hb _ g1,g2⟩
 ·exact .inr (.inl ⟨d,cs,T,vs,hb _ g1,g2,g3,g4,aU.mono (fun _ _ h=>h) _ _ _ (hin k e hk) g5,g6⟩)
 ·exact .inr (.inr ⟨d,ms,hb _ g1,g2,g3,cH.mono (fun _ _ h=>h) _ _ _ (hin k e hk) g4⟩)
open Classical in
theorem fy{f:FuncId}{args args0:List SV}{T M:aJ}{pk:List Nat}{Φ:aJ→SV→Prop}{W:Option (List Nat)}{K:aJ→List Nat→SV→Prop}(h:mw P f args0 T pk Φ)(s:List Nat)(hd:s.Nodup)
  (hT:k9 (sg s M.length) M s T) (ha:args=dC (sg s M.length) args0) (hpk:∀k∈pk,k<T.length∧sg s M.length k∉C.fx∧GO s (sg s M.length k) 0 (lM (pk.map (sg s M.length)) M)=true)
  (hW:∀ks,W=some ks→pk=[]∧∀k∈s,k∈ks)
  (hK:∀T1 y,Φ T1 y→K (rh (sg s M.length) (lM (pk.map (sg s M.length)) M) s T1) (pk.map (sg s M.length)) (gJ (sg s M.length) y)):dH P C f args M W K:=by
 intro β H w vals hdv hWM;have hlen:s.length=T.length:=(sH (m:=0) hT).1;have hσ:=(sH (m:=M.length) hT).2;have hsl:∀k∈s,k<M.length:=fun k hk=>by
  obtain⟨i,hi,rfl⟩:=H9 (m:=M.length) hk;obtain⟨e, -,h2⟩:=hσ i hi;exact(amH.1 (aL h2)).1
 have hinj:=fun{i j}=>NF (s:=s) (m:=M.length) hd hsl (i:=i) (j:=j);have hσlt:∀i,i<s.length→sg s M.length i<M.length:=fun i hi=>by
  obtain⟨k,hk,e⟩:=HK (m:=M.length) hi;rw[e];exact hsl k hk
 have hge:∀i,s.length≤i→sg s M.length i=M.length+(i - s.length):=fun i hi=>M3 hi;generalize hsig:sg s M.length=σ at *
 let β0:bO:=fun k=>β (σ k)
 have hD:bF β0 H args0 vals:=by rw[ha]at hdv;exact m8.1 hdv
 let X:List Nat:=(amP s.length).filterMap fun i=>match β0 i with
  | some (some d)=>some d.b
  | _=>none
 have hX:∀b,b∈X↔∃i d,i<s.length∧β (σ i)=some (some d)∧d.b=b:=fun b=>by
  simp only[X,List.mem_filterMap,List.mem_range];constructor
  ·rintro⟨i,hi,he⟩;split at he
   ·rename_i d h2;simp only[al0]at he;exact⟨i,d,hi,h2,he⟩
   ·cases he
  ·rintro⟨i,d,hi,hd,rfl⟩;refine⟨i,hi,?_⟩;have:β0 i=some (some d):=hd;rw[this]
 have hown:∀b,b∈X→C.w0.heap.size≤b∨b∈C.X:=fun b hb=>by
  obtain⟨i,d,h1,h2,rfl⟩:=(hX b).1 hb;obtain⟨e, -,h3⟩:=hσ i h1;exact(hWM.own (σ i) _ d (aL h3) h2).2
 let C0:Ctx:=⟨w,H,X,β0,[]⟩
 have hTlt:∀(k:Nat) (e:cx),T[k]?=some (some e)→k<s.length∧ao M (σ k)=some (jj σ e):=fun k e hk=>by
  have hk':k<s.length:=by
   have:=(amH.1 hk).1;omega
  obtain⟨e2,h2,h3⟩:=hσ k hk';rw[hk]at h2;simp only[al0]at h2;subst h2;exact⟨hk',h3⟩
 have hW0:cv C0 β0 H T w:=⟨rfl,rfl,rfl,Nat.le_refl _,fun _ _ _=>rfl,fun _ _ h=>h,fun _ _ h=>.inl h,hWM.inv,
  fun k e hk=>nY.gJ.1 (hWM.da (σ k) _ (aL (hTlt k e hk).2)),
  fun k e d hk hd=>⟨(hWM.own (σ k) (jj σ e) d (aL (hTlt k e hk).2) hd).1,.inr ((hX _).2 ⟨k,d,(hTlt k e hk).1,hd,rfl⟩)⟩,
  fun k k' e e' d d' hk hk' hd hd' hb=>hinj (hWM.inj (σ k) (σ k') (jj σ e) (jj σ e') d d' (aL (hTlt k e hk).2) (aL (hTlt k' e' hk').2) hd hd' hb),
  fun k hk=>hWM.fresh _ (by rw[hge k (by omega)];omega),fun k d hk=>(by cases hk),hWM.eW⟩
 refine Calls.mono (h C0 rfl β0 H w vals hD hW0) ?_;rintro e w1 ⟨β1,H1,T',v,x,pk',rfl,g1,g2,g3,g4,⟨rfl,T1,y,hΦ,rfl,hle,hlenT,hj⟩,g6, -⟩;have hj':T'.length=T1.length∨j6 T1.length T1:=hj.imp id And.right;have g2w:cv C0 (mz β1 T1.length) H1 T1 w1:=g2.Yb hle hj' rfl;have hw0:=hWM.lM (ks:=pk'.map σ);have hcut:∀{k d},k<s.length→β1 k=some d→mz β1 T1.length k=some d:=fun{k d} hk hd=>by
  have:k<T1.length:=by omega
  simp[mz,this,hd]
 have g1w:Den (mz β1 T1.length) H1 x v:=by
  refine Den.mono (fun _ _ h=>h) x v (fun k d hu hd=>?_) g1;have:k<T1.length:=by
   rcases hj with hj | ⟨hj, -⟩
   ·rcases amz k T1.length with h' | h'
    ·exact h'
    ·rw[g2.fresh k (by omega)]at hd;cases hd
   ·rcases amz k T1.length with h' | h'
    ·exact h'
    ·rw[SV.tY h' x hj]at hu;cases hu
  simp[mz,this,hd]
 let β':bO:=fun i=>if hx:∃k,σ k=i then mz β1 T1.length (aoK hx) else β i
 have hβσ:∀k,β' (σ k)=mz β1 T1.length k:=fun k=>by
  have hx:∃k',σ k'=σ k:=⟨k,rfl⟩;show(if hx:∃k',σ k'=σ k then mz β1 T1.length (aoK hx) else β (σ k))=_;rw[dif_pos hx];rw[hinj (aoL hx)]
 have hβo:∀i,(∀k,σ k≠i)→β' i=β i:=fun i hi=>by
  show(if hx:∃k',σ k'=i then mz β1 T1.length (aoK hx) else β i)=_;rw[dif_neg (fun⟨k,hk⟩=>hi k hk)]
 have hβfun:(fun k=>β' (σ k))=mz β1 T1.length:=funext hβσ;have hmono:∀i d,i∉pk'.map σ→β i=some d→β' i=some d:=fun i d hi hd=>by
  by_cases hx:∃k,σ k=i
  ·obtain⟨k,rfl⟩:=hx;rw[hβσ];have hks:k<s.length:=by
    rcases amz k s.length with h' | h'
    ·exact h'
    ·rw[hWM.fresh _ (by rw[hge k h'];omega)]at hd;cases hd
   exact hcut hks (g3 k d (fun hp=>hi (am8.2 ⟨k,hp,rfl⟩)) hd)
  ·rw[hβo i fun k hk=>hx ⟨k,hk⟩];exact hd
 have hout:∀i,(∀k,k<T1.length→σ k≠i)→i<M.length→∀k,σ k≠i:=fun i hi hil k hk=>by
  rcases amz k T1.length with h' | h'
  ·exact hi k h' hk
  ·rw[hge k (by omega)]at hk;omega
 have hheap:∀b,b<w.heap.size→b∉X→w1.heap[b]?=w.heap[b]?:=fun b hb hx=>g2.frame b hb hx;have hM0:(lM (pk'.map σ) M).length=M.length:=Bp _ _;have hspec:∀(i:Nat) (e':cx),(rh σ (lM (pk'.map σ) M) s T1)[i]?=some (some e') →
   (∃(k:Nat) (e:cx),σ k=i∧T1[k]?=some (some e)∧e'=jj σ e)∨((∀k,σ k≠i)∧i<M.length∧(lM (pk'.map σ) M)[i]?=some (some e')):=fun i e' hi=>by
  rcases x7 (by omega) hi with h1 | ⟨h1,h2⟩
  ·rw[hM0,hsig]at h1;exact .inl h1
  ·rw[hM0,hsig]at h1;have hil:i<M.length:=by rw[←hM0];exact(amH.1 h2).1
   exact .inr ⟨hout i h1 hil,hil,h2⟩
 have hnX:∀(i:Nat) (e':cx) (d:Bd),(∀k,σ k≠i)→(lM (pk'.map σ) M)[i]?=some (some e')→β i=some (some d)→d.b∉X:=fun i e' d hi he hd' hb=>by
  obtain⟨k,d2,h1,h2,h3⟩:=(hX _).1 hb;obtain⟨e2, -,h4⟩:=hσ k h1;have hi1:∃e0:cx,(lM (pk'.map σ) M)[σ k]?=some (some e0):=by
   have aux:∀(ks:List Nat) (M:aJ) (q:Nat),(∃e0:cx,M[q]?=some (some e0))→∃e0:cx,(lM ks M)[q]?=some (some e0):=fun ks=>by
    induction ks with
    | nil=>intro M q h;exact h
    | cons a ks ih =>
     rintro M q ⟨e0,h⟩;refine ih _ _ ?_;unfold Cq;split
     ·exact⟨e0,h⟩
     ·simp only[uN,amf,h];exact⟨_,rfl⟩
   exact aux _ _ _ ⟨_,aL h4⟩
  obtain⟨e0,hi1⟩:=hi1;exact hi k (hw0.inj (σ k) i e0 e' d2 d hi1 he h2 hd' h3)
 refine⟨β',H1,rh σ (lM (pk'.map σ) M) s T1,v,gJ σ x,pk'.map σ,rfl,kR.2 (by rw[hβfun];exact g1w),?_,hmono,g4,hK T1 x hΦ,g6,fun ks hks=>?_⟩
 ·refine⟨g2.os.trans hWM.os,g2.tape.trans hWM.tape,g2.output.trans hWM.output,amQ hWM.size g6,fun b hb hx=>?_,fun b cs hb=>g4 b cs (hWM.ext b cs hb),fun b cs hb=>?_,g2.inv,fun i e' hi=>?_,fun i e' d hi hd'=>?_,fun i i' e1 e2 d1 d2 hi hi' hd1 hd2 hb=>?_,fun i hi=>?_,fun i d hi hd'=>?_,g2.eW⟩
  ·rw[hheap b (Nat.lt_of_lt_of_le hb hWM.size) (fun hbX=>by rcases hown b hbX with h' | h';omega;exact hx h')];exact hWM.frame b hb hx
  ·rcases g2.new b cs hb with h' | h' | h'
   ·exact hWM.new b cs h'
   ·exact .inr (.inl (amQ hWM.size h'))
   ·exact .inr (hown b h')
  ·rcases hspec i e' hi with⟨k,e0,rfl,h2,rfl⟩ | ⟨h1,hil,h2⟩
   ·refine nY.gJ.2 ?_;rw[hβfun];exact g2w.da k e0 h2
   ·have hbi:∀d,β i=some d→β' i=some d:=fun d hd'=>by rw[hβo i h1];exact hd'
    have hus:∀j d,SV.aX j e'.es=true→β j=some d→β' j=some d:=fun j d hu hd'=>by
     refine hmono j d (fun hp=>?_) hd';obtain⟨k,hk,rfl⟩:=am8.1 hp;have:=CH (hpk k hk).2.2 h2 (by
      rw[Nat.zero_add];intro hs;obtain⟨q, -,e⟩:=H9 (m:=M.length) hs;rw[hsig]at e;exact h1 q e)
     rw[this]at hu;cases hu
    have hhp:∀d,β i=some (some d)→w1.heap[d.b]?=w.heap[d.b]?:=fun d hd'=>hheap _ (hw0.lt h2 hd') (hnX i e' d h1 h2 hd');rcases hw0.da i e' h2 with⟨q1,q2⟩ | ⟨d,cs,Tt,vs,q1,q2,q3,q4,q5,q6,q7,q8⟩ | ⟨d,ms,q1,q2,q3,q4⟩
    ·exact .inl ⟨hbi _ q1,q2⟩
    ·exact .inr (.inl ⟨d,cs,Tt,vs,hbi _ q1,q2,by rw[hhp d q1];exact q3,q4,aU.mono g4 _ _ _ hus q5,q6,q7,fun hf=>⟨g4 _ _ (q8 hf).1,(q8 hf).2⟩⟩)
    ·exact .inr (.inr ⟨d,ms,hbi _ q1,q2,by rw[hhp d q1];exact q3,cH.mono g4 _ _ _ hus q4⟩)
  ·rcases hspec i e' hi with⟨k,e0,rfl,h2,rfl⟩ | ⟨h1,hil,h2⟩
   ·rw[hβσ]at hd';obtain⟨q1,q2⟩:=g2w.own k e0 d h2 hd';refine⟨q1,?_⟩;rcases q2 with h' | h'
    ·exact .inl (amQ hWM.size h')
    ·exact hown _ h'
   ·rw[hβo i h1]at hd';obtain⟨q1,q2⟩:=hw0.own i e' d h2 hd';refine⟨fun hf=>?_,q2⟩;cases hH:H1 d.b with
    | none=>rfl
    | some cs =>
     rcases g2.new _ _ hH with h' | h' | h'
     ·have h'':H d.b=some cs:=h';rw[q1 hf]at h'';cases h''
     ·have aF:=hw0.lt h2 hd';have h'':w.heap.size≤d.b:=h';omega
     ·exact absurd h' (hnX i e' d h1 h2 hd')
  ·rcases hspec i e1 hi with⟨k,e0,rfl,h2,rfl⟩ | ⟨h1,hil,h2⟩<;>rcases hspec i' e2 hi' with⟨k',e0',rfl,h2',rfl⟩ | ⟨h1',hil',h2'⟩
   ·rw[hβσ]at hd1 hd2;rw[g2w.inj k k' e0 e0' d1 d2 h2 h2' hd1 hd2 hb]
   ·rw[hβσ]at hd1;rw[hβo i' h1']at hd2;exfalso;rcases(g2w.own k e0 d1 h2 hd1).2 with h' | h'
    ·have aF:=hw0.lt h2' hd2;have h'':w.heap.size≤d1.b:=h';omega
    ·rw[hb]at h';exact hnX i' e2 d2 h1' h2' hd2 h'
   ·rw[hβσ]at hd2;rw[hβo i h1]at hd1;exfalso;rcases(g2w.own k' e0' d2 h2' hd2).2 with h' | h'
    ·have aF:=hw0.lt h2 hd1;have h'':w.heap.size≤d2.b:=h';omega
    ·rw[←hb]at h';exact hnX i e1 d1 h1 h2 hd1 h'
   ·rw[hβo i h1]at hd1;rw[hβo i' h1']at hd2;exact hw0.inj i i' e1 e2 d1 d2 h2 h2' hd1 hd2 hb
  ·rw[Ca (by omega),hM0]at hi;have e:σ (s.length+(i - M.length))=i:=by rw[hge _ (by omega)];omega
   have hT1:¬s.length+(i - M.length)<T1.length:=by omega
   rw[←e,hβσ];simp[mz,hT1]
  ·refine hmono i d (fun hp=>?_) (hWM.fU i d hi hd');obtain⟨k,hk,rfl⟩:=am8.1 hp;exact(hpk k hk).2.1 hi
 ·obtain⟨q1,q2⟩:=hW ks hks;subst q1;refine⟨rfl,fun b hb hn=>hheap b hb fun hbX=>?_⟩;obtain⟨k,d,h1,h2,h3⟩:=(hX _).1 hbX;obtain⟨q,hq,e⟩:=HK (m:=M.length) h1;rw[hsig]at e;exact hn (σ k) (by rw[e];exact q2 q hq) d h2 h3.symm
end
@[simp] theorem SD{C:Ctx}{Q:aV}{c:List PanicEntry}{st:St}:WQ C Q (.panic c) st=∃st',Le C st st'∧Q (.panic c) st':=rfl
def isP(x:SV):Prop:=x.pure=true
@[simp] theorem aec(x:SV):isP x=(x.pure=true):=propext Iff.rfl
def PE(x:List SV):Prop:=SV.ba x=true
@[simp] theorem abN(x:List SV):PE x=(SV.ba x=true):=propext Iff.rfl
@[simp] theorem UW{σ:Nat→Nat}{x:SV}(h:isP x):gJ σ x=x:=wq σ x h
@[simp] theorem Sa{σ:Nat→Nat}{l:List SV}(h:PE l):dC σ l=l:=cY σ l h
@[simp] theorem UI{k:Nat}{es:List SV}{x:SV}(h:isP x):jT k es x=x:=vu k es x h
@[simp] theorem XC{k:Nat}{es:List SV}{l:List SV}(h:PE l):j5 k es l=l:=dR k es l h
@[simp] theorem ZG{k:Nat}{es a b:List SV}:j5 k es (a++b)=j5 k es a++j5 k es b:=by
 induction a with
 | nil=>simp
 | cons x a ih=>simp[ih]
@[simp] theorem ab6{k:Nat}{es l r:List SV}{f:FuncId}:jT k es (.gA f l r)=.gA f (j5 k es l) (j5 k es r):=by simp only[jT]
@[simp] theorem YG{α:Type}(f:α→SV)(l:List α):List.take l.length (l.map f)=l.map f:=List.take_of_length_le (by simp)
@[simp] theorem acb{σ:Nat→Nat}{k i j:Nat}:gJ σ (.ptr k i j)=.ptr (σ k) i j:=by simp only[gJ]
@[simp] theorem X1{σ:Nat→Nat}{k i n:Nat}:gJ σ (.view k i n)=.view (σ k) i n:=by simp only[gJ]
@[simp] theorem afd{σ:Nat→Nat}{k:Nat}:gJ σ (.mp k)=.mp (σ k):=by simp only[gJ]
@[simp] theorem abi{σ:Nat→Nat}{l:List SV}:gJ σ (.agg l)=.agg (dC σ l):=by simp only[gJ]
@[simp] theorem YR{σ:Nat→Nat}{l:List SV}:gJ σ (.bG l)=.bG (dC σ l):=by simp only[gJ]
@[simp] theorem Zf{σ:Nat→Nat}{t:TypeId}{x:SV}:gJ σ (.iw t x)=.iw t (gJ σ x):=by simp only[gJ]
@[simp] theorem abR{σ:Nat→Nat}{f:FuncId}{l r:List SV}:gJ σ (.gA f l r)=.gA f (dC σ l) (dC σ r):=by simp only[gJ]
@[simp] theorem aak{σ:Nat→Nat}{v:Value}:gJ σ (.val v)=.val v:=by simp only[gJ]
@[simp] theorem O3{σ:Nat→Nat}{l:List SV}:gJ σ (.ro l)=.ro l:=by simp only[gJ]
@[simp] theorem YU{σ:Nat→Nat}{x:SV}{j:Nat}:gJ σ (.bU x j)=.bU x j:=by simp only[gJ]
@[simp] theorem abf{σ:Nat→Nat}{t g:Nat}:gJ σ (.fp t g)=.fp t g:=by simp only[gJ]
@[simp] theorem ac9{σ:Nat→Nat}:gJ σ .any=.any:=by simp only[gJ]
@[simp] theorem Sm{σ:Nat→Nat}:dC σ []=[]:=by simp only[dC]
@[simp] theorem Rl{σ:Nat→Nat}{x:SV}{l:List SV}:dC σ (x::l)=gJ σ x::dC σ l:=by simp only[dC]
@[simp] theorem Wl{σ:Nat→Nat}{a b:List SV}:dC σ (a++b)=dC σ a++dC σ b:=by
 induction a with
 | nil=>simp
 | cons x a ih=>simp[ih]
@[simp] theorem acJ{σ:Nat→Nat}{s:Nat}{l:List SV}{f:Bool}:jj σ ⟨s,l,f⟩=⟨s,dC σ l,f⟩:=rfl
@[simp] theorem adh{m i:Nat}:sg [] m i=m+i:=rfl
@[simp] theorem aaL{k m:Nat}{s:List Nat}:sg (k::s) m 0=k:=rfl
@[simp] theorem Zv{k m i:Nat}{s:List Nat}:sg (k::s) m (i+1)=sg s m i:=rfl
@[simp] theorem RL{σ:Nat→Nat}{M T:aJ}{k:Nat}{s:List Nat}{e:Option cx}:rh σ M (k::s) (e::T)=rh σ (aN M k (e.map (jj σ))) s T:=rfl
@[simp] theorem W7{σ:Nat→Nat}{M T:aJ}:rh σ M [] T=M++T.map fun e=>e.map (jj σ):=by cases T<;>rfl
@[simp] theorem Mt{σ:Nat→Nat}{M T:aJ}{k:Nat}{s:List Nat}{e:cx}:k9 σ M (k::s) (some e::T)=(ao M k=some (jj σ e)∧k9 σ M s T):=rfl
@[simp] theorem NA{σ:Nat→Nat}{M:aJ}:k9 σ M [] []=True:=rfl
@[simp] theorem abj{s:List Nat}{k i:Nat}:GO s k i []=true:=rfl
@[simp] theorem Uu{s:List Nat}{k i:Nat}{M:aJ}:GO s k i (none::M)=GO s k (i+1) M:=rfl
@[simp] theorem Tg{s:List Nat}{k i:Nat}{e:cx}{M:aJ}:GO s k i (some e::M)=((s.contains i||!SV.aX k e.es)&&GO s k (i+1) M):=rfl
@[simp] theorem XR{M:aJ}:lM [] M=M:=rfl
@[simp] theorem PM{k:Nat}{ks:List Nat}{M:aJ}:lM (k::ks) M=lM ks (Cq k M):=rfl
@[simp] theorem XW{T T':aJ}{pk pk':List Nat}{Φ:aJ→SV→Prop}{x:SV}:Lv T pk Φ T' pk' x=(pk'=pk∧∃T1 y,Φ T1 y∧x=y∧iS T' T1∧T.length≤T1.length∧(T'.length=T1.length∨(y.lt T1.length=true∧j6 T1.length T1))):=rfl
end Go.Sv

